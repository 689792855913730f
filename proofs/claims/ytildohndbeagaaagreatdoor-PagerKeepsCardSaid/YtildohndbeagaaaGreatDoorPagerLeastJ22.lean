/- What the proof of PagerLeast needs, part 22. -/
import Derived.Test.YtildohndbeagaaaGreatDoorPagerLeastJ3
import Derived.Test.YtildohndbeagaaaGreatDoorPagerLeastJ21

namespace Go.Proofs.YtildohndbeagaaaGreatDoor
open Go Go.RowKit
set_option linter.unusedVariables false

/-- A new block of numbers reads as they are. -/
theorem Sl.newN {S : Nat → Prop} (w : World) (e : TypeId) (xs : List Value) {g n : Nat} (hg : g = w.heap.size) (hn : n = xs.length) (hS : S g) (h0 : 0 < n) (hm : n ≤ maxLen) : Sl S (w.alloc (.cells xs.toArray e)) 1 (.slice (some ⟨g, 0, none⟩) n n) n xs := by
  subst hg hn
  refine ⟨by simp, _, _, rfl, Nat.le_refl _, hm, (fun h => by cases h), fun _ => ⟨_, 0, rfl, hS, fun j x hx => ?_⟩⟩
  rw [World.cell?_alloc_new, Nat.zero_add]
  simpa using hx
/-- What has been written behind j rows. -/
structure TlSt (w wr : World) (gw : Nat) (tag : Nat) (t : TF) (j : Nat) : Prop where
  wr' : Wr wr gw gw (varB tag ++ (varB (idsOf t).length ++ ((idsOf t).take j).flatMap (rowB t)))
  below : Below w.heap.size w wr
  gw0 : w.heap.size ≤ gw

set_option maxHeartbeats 8000000 in
set_option maxRecDepth 100000 in
theorem ptells_any (tag bt : Nat) (t : TF) (n : Nat) (w : World) (ht : Tbl w bt t) (hok : TbOk n t) (hn : n ≤ 256) (htag : tag < U64) :
    Calls Tryz.prog 48 #[.int .u64 (tag : Int), .map (some bt)] w fun e w' => e = .returned (.string (st (tellsT tag t))) ∧ Below w.heap.size w w' := by
  have HT := Lib.hid ht
  have HOK := Lib.hid hok
  have HTG := Lib.hid htag
  have hle := ids_le t
  have hbt := ht.lt
  clear ht hok htag
  go_enter Tryz.func48, Tryz.ntmps48
  go_wp2_with fail
  refine (write_any w).mono ?_
  rintro e w1 ⟨rfl, hw1, q1, hs1⟩
  have HT1 := Lib.hid (HT.out.later q1)
  have HW1 := Lib.hid hw1
  have Q1 := Lib.hid q1
  have hln := fun ty => HT1.out.mp.len intTy tbTy ty
  obtain ⟨N, hN⟩ : ∃ N, (idsOf t).length = N := ⟨_, rfl⟩
  rw [hN] at hln hle
  have HN := Lib.hid hN
  have hgw : w.heap.size < w1.heap.size := by omega
  have qb : Below w1.heap.size w1 (w1.alloc (.cells #[.int .u64 (tag : Int), .int .u64 (N : Int)] 31)) := (Below.refl _ _).alloc (Nat.le_refl _) _
  have SLN : Hid (Sl (fun b => b ≠ w.heap.size ∧ b < (w1.alloc (.cells #[.int .u64 (tag : Int), .int .u64 (N : Int)] 31)).heap.size) (w1.alloc (.cells #[.int .u64 (tag : Int), .int .u64 (N : Int)] 31)) 1 (.slice (some ⟨w1.heap.size, 0, none⟩) 2 2) [tag, N].length (nums [tag, N])) := Sl.newN w1 31 (nums [tag, N]) rfl rfl ⟨by omega, by simp⟩ (by simp) (by simp [maxLen])
  have HWB := Lib.hid (HW1.out.later qb)
  have QB := Lib.hid (Q1.out.trans (qb.mono Q1.out.size))
  have HTB := Lib.hid (HT1.out.later qb)
  clear hw1 q1 hs1 hN qb
  go_wp2_with fail
  refine (wnum_any w.heap.size w.heap.size [] [tag, N] _ _ HWB.out (by simp; omega) (Nat.le_refl _) (by intro y hy; simp at hy; rcases hy with rfl | rfl <;> first | exact HTG.out | (unfold U64; omega)) (by simp) SLN.out).mono ?_
  rintro e w2 ⟨rfl, hw2, hg2⟩
  have q2 := QB.out.grown hg2 QB.out.size (fun j hj => by cases hj; exact Nat.le_refl _)
  have HT2 := Lib.hid (HT.out.later q2)
  have hw2' : Wr w2 w.heap.size w.heap.size (varB tag ++ (varB (idsOf t).length ++ ((idsOf t).take 0).flatMap (rowB t))) := by
    rw [HN.out, List.take_zero]
    simpa using hw2
  have hs2 := q2.size
  have hgw2 : w.heap.size < w2.heap.size := by have := hg2.size; simp at this; omega
  have HW2 := Lib.hid hw2'
  have Q2 := Lib.hid q2
  clear hw2 hg2 q2 HTB QB HWB SLN HW1 Q1 HT1 hln hw2' hgw
  go_wp2_with fail
  refine (keysT_any bt w2).mono ?_
  rintro e w3 ⟨rfl, rfl⟩
  have qa : Below w2.heap.size w2 (w2.alloc (.cells #[.map (some bt)] 77)) := (Below.refl _ _).alloc (Nat.le_refl _) _
  have HT3 := Lib.hid (HT2.out.later qa)
  have ST3 : Hid (TlSt w (w2.alloc (.cells #[.map (some bt)] 77)) w.heap.size tag t 0) := ⟨HW2.out.later qa, Q2.out.trans (qa.mono Q2.out.size), Nat.le_refl _⟩
  have BK := Lib.hid (Blk.new w2 77 #[.map (some bt)])
  have hgw3 : w.heap.size < (w2.alloc (.cells #[.map (some bt)] 77)).heap.size := by simp; omega
  clear qa HT2 HW2 Q2
  generalize hW3 : w2.alloc _ = w3 at *
  clear hW3
  go_wp2_with fail
  refine (sortedT_any bt w2.heap.size _ w3 HT3.out.mp (fun y _ => tbV_some t y) HT3.out.in90 BK.out).mono ?_
  rintro e w5 ⟨A5, c5, rfl, hown5, q5⟩
  have ST5 : Hid (TlSt w w5 w.heap.size tag t 0) := ⟨ST3.out.wr'.later q5, ST3.out.below.trans (q5.mono ST3.out.below.size), ST3.out.gw0⟩
  have SL5 := Lib.hid (Sl.of_own (by omega) hown5)
  have HW5 := Lib.hid (Nat.le_refl w5.heap.size)
  have h53 := q5.size
  have HTW := Lib.hid HT.out
  clear hown5 q5 ST3 BK HT3
  rw [HN.out] at SL5 ⊢
  generalize hgs : w.heap.size = gw at *
  have HGS := Lib.hid hgs
  clear hgs
  go_wp2_with fail
  go_loopw [23] (fun jv wr => ∃ (j : Nat), jv = .int .i64 (j : Int) ∧ j ≤ N ∧ Hid (TlSt w wr gw tag t j) ∧ Hid (Sl (fun b => w3.heap.size ≤ b ∧ b < w5.heap.size) wr 1 (.slice A5 N c5) N (iV (idsOf t))) ∧ Hid (w5.heap.size ≤ wr.heap.size)) (fun jv _ => N - (intOf jv).toNat)
  case atStart => exact ⟨0, rfl, Nat.zero_le _, ST5, SL5, HW5⟩
  case round =>
    clear ST5 SL5 HW5
    obtain ⟨j, rfl, hj, TS, SL, HW⟩ := hrel
    have HTR := Lib.hid (HT.out.later TS.out.below)
    by_cases hjn : j < N
    · obtain ⟨b5, o5, rfl, hb5, hcell⟩ : ∃ b o, A5 = some ⟨b, o, none⟩ ∧ (w3.heap.size ≤ b ∧ b < w5.heap.size) ∧ ∀ j u, (iV (idsOf t))[j]? = some u → wr.cell? ⟨b, o + j, none⟩ = some u := by
        obtain ⟨_, A', c', hv, _, _, _, h6⟩ := SL.out
        injection hv with hA _ hc
        subst hA hc
        exact h6 (by omega)
      obtain ⟨i, hi⟩ : ∃ i, (idsOf t)[j]? = some i := ⟨_, List.getElem?_eq_getElem (by rw [HN.out]; exact hjn)⟩
      have k0 : wr.cell? ⟨b5, o5 + j, none⟩ = some (.int .i64 (i : Int)) := hcell j _ (by unfold iV; rw [List.getElem?_map, hi]; rfl)
      have hmem := mem_ids.1 (List.mem_of_getElem? hi)
      have hi90 := hmem.1
      obtain ⟨⟨p, l⟩, hpl⟩ := Option.isSome_iff_exists.1 hmem.2
      obtain ⟨hp, hl⟩ := HOK.out.row _ p l hpl
      have hl' : j < (idsOf t).length := by rw [HN.out]; exact hjn
      have HTK : Hid (((idsOf t).take (j + 1)).flatMap (rowB t) = ((idsOf t).take j).flatMap (rowB t) ++ (varB i ++ (varB p ++ varB l))) := by
        have h1 : (idsOf t)[j] = i := by rw [List.getElem?_eq_getElem hl'] at hi; exact Option.some.inj hi
        rw [Hid, List.take_succ_eq_append_getElem hl', List.flatMap_append, h1]
        unfold rowB
        rw [List.flatMap_cons, List.flatMap_nil, List.append_nil, hpl]
        rfl
      have HLN : Hid ((varB tag ++ (varB (idsOf t).length ++ ((idsOf t).take j).flatMap (rowB t))).length ≤ 500) := by
        have h1 := varB_le10 HTG.out
        have h3 : (varB (idsOf t).length).length ≤ 1 := varB_le 0 _ (by have := HN.out; omega)
        have h4 := flat_len (f := rowB t) (m := 5) ((idsOf t).take j) fun i hi => rowB_len hn HOK.out (mem_ids.1 (List.mem_of_mem_take hi)).1
        have h5 : ((idsOf t).take j).length ≤ 90 := by rw [List.length_take]; omega
        have h6 : 5 * ((idsOf t).take j).length ≤ 5 * 90 := Nat.mul_le_mul_left 5 h5
        rw [Hid, List.length_append, List.length_append]
        omega
      have l6 := HTR.out.mp.look1 intTy tbTy (zeroPl wr) (a := (i : Int)) (by unfold InI; omega)
      rw [tbV_get, hpl] at l6
      simp only [Option.getD_some, plV] at l6
      have hgr := TS.out.below.size
      have hgwr : gw < wr.heap.size := by obtain ⟨_, _, _, hb, _⟩ := TS.out.wr'; exact hb.lt
      clear hcell hi hmem hpl hl'
      have q1 : Below wr.heap.size wr (wr.alloc (.cells #[.int .i64 (p : Int), .int .i64 (l : Int)] 108)) := (Below.refl _ _).alloc (Nat.le_refl _) _
      have q2 : Below wr.heap.size wr ((wr.alloc (.cells #[.int .i64 (p : Int), .int .i64 (l : Int)] 108)).alloc (.cells #[.int .u64 (i : Int), .int .u64 (p : Int), .int .u64 (l : Int)] 31)) := q1.alloc q1.size _
      have e1 : (wr.alloc (.cells #[.int .i64 (p : Int), .int .i64 (l : Int)] 108)).heap.size = wr.heap.size + 1 := by simp
      have SLN : Hid (Sl (fun b => b ≠ gw ∧ b < ((wr.alloc (.cells #[.int .i64 (p : Int), .int .i64 (l : Int)] 108)).alloc (.cells #[.int .u64 (i : Int), .int .u64 (p : Int), .int .u64 (l : Int)] 31)).heap.size) ((wr.alloc (.cells #[.int .i64 (p : Int), .int .i64 (l : Int)] 108)).alloc (.cells #[.int .u64 (i : Int), .int .u64 (p : Int), .int .u64 (l : Int)] 31)) 1 (.slice (some ⟨wr.heap.size + 1, 0, none⟩) 3 3) [i, p, l].length (nums [i, p, l])) := Sl.newN (wr.alloc (.cells #[.int .i64 (p : Int), .int .i64 (l : Int)] 108)) 31 (nums [i, p, l]) (by simp) rfl ⟨by omega, by simp⟩ (by simp) (by simp [maxLen])
      have HWB := Lib.hid (TS.out.wr'.later q2)
      have QB := Lib.hid (TS.out.below.trans (q2.mono TS.out.below.size))
      have SLB := Lib.hid (Sl.below SL.out q2 (fun b hb => by have := hb.2; have := HW.out; omega))
      have HWB2 : Hid (w5.heap.size ≤ ((wr.alloc (.cells #[.int .i64 (p : Int), .int .i64 (l : Int)] 108)).alloc (.cells #[.int .u64 (i : Int), .int .u64 (p : Int), .int .u64 (l : Int)] 31)).heap.size) := Nat.le_trans HW.out q2.size
      have HSS : Hid (((wr.alloc (.cells #[.int .i64 (p : Int), .int .i64 (l : Int)] 108)).alloc (.cells #[.int .u64 (i : Int), .int .u64 (p : Int), .int .u64 (l : Int)] 31)).heap.size = wr.heap.size + 2) := by simp [Hid]
      have G0 := Lib.hid TS.out.gw0
      clear q1 q2 e1 SL HW TS HTR
      go_wp2_with fail
      refine (wnum_any gw gw _ [i, p, l] _ _ HWB.out (by rw [HSS.out]; omega) (Nat.le_refl _) (by intro y hy; simp at hy; unfold U64; omega) (by have := HLN.out; rw [show [i, p, l].length = 3 from rfl]; omega) SLN.out).mono ?_
      rintro e w6 ⟨rfl, hw6, hg6⟩
      have TS6 : Hid (TlSt w w6 gw tag t (j + 1)) := by
        refine ⟨?_, QB.out.grown hg6 QB.out.size (fun j hj => by cases hj; exact G0.out), G0.out⟩
        rw [HTK.out]
        have e : varB tag ++ (varB (idsOf t).length ++ (((idsOf t).take j).flatMap (rowB t) ++ (varB i ++ (varB p ++ varB l)))) = varB tag ++ (varB (idsOf t).length ++ ((idsOf t).take j).flatMap (rowB t)) ++ [i, p, l].flatMap varB := by simp [List.append_assoc]
        rw [e]
        exact hw6
      have SL6 := Lib.hid (SLB.out.grown hg6 (fun b hb => by have := hb.2; have := HWB2.out; omega) (fun b hb e => by have := Option.some.inj e; omega))
      have HW6 : Hid (w5.heap.size ≤ w6.heap.size) := Nat.le_trans HWB2.out hg6.size
      clear hw6 hg6 SLN HWB QB SLB HWB2
      go_wp2_with fail
      go_roundw
      case rel => exact ⟨j + 1, by go_num, by omega, TS6, SL6, HW6⟩
      case measure => simp [intOf]; omega
    · obtain rfl : j = N := by omega
      have HWE : Hid (Wr wr gw gw (tellsT tag t)) := by
        have := TS.out.wr'
        rw [List.take_of_length_le (by rw [HN.out]; exact Nat.le_refl _)] at this
        exact this
      have HLE := Lib.hid (tells_len hn HOK.out HTG.out)
      go_wp2_with fail
      refine (wbytes_any gw gw (tellsT tag t) wr HWE.out (by have := HLE.out; omega)).mono ?_
      rintro e w6 ⟨A6, k6, c6, rfl, hown6, hb6⟩
      have cv := run_string_of_bs (P := Tryz.prog) hown6.bs tB tU tS
      have Q6 := Lib.hid (TS.out.below.trans (hb6.mono TS.out.below.size))
      clear hown6 hb6 HWE TS SL HTR
      go_wp2_with fail
      go_ret
      exact ⟨rfl, Q6.out⟩
end Go.Proofs.YtildohndbeagaaaGreatDoor
