/- What the proof of WalPlays needs, part 9. -/
import Derived.Test.YtojlldalhhibmaaGreatDoorWalPlaysJ8
import Derived.StillTailTactics

namespace Go.Proofs.YtojlldalhhibmaaGreatDoor
open Go Go.RowKit
set_option linter.unusedVariables false

theorem wPut_end {D : Dsk} {p : Int} {b : List UInt8} {m k : Nat} (h : ¬ 512 * k < b.length) : wPut D p b m k = (D, 0) := by
  cases m with
  | zero => rfl
  | succ m => rw [wPut, if_neg h]
theorem wPut_go {D : Dsk} {p : Int} {b : List UInt8} {m k : Nat} (h : 512 * k < b.length) (hw : D.why (p + (k : Int)) ((b.drop (512 * k)).take 512) = 0) : wPut D p b (m + 1) k = wPut (D.write (p + (k : Int)) ((b.drop (512 * k)).take 512)) p b m (k + 1) := by
  rw [wPut, if_pos h, if_pos hw]
theorem wPut_stop {D : Dsk} {p : Int} {b : List UInt8} {m k : Nat} (h : 512 * k < b.length) (hw : D.why (p + (k : Int)) ((b.drop (512 * k)).take 512) ≠ 0) : wPut D p b (m + 1) k = (D, D.why (p + (k : Int)) ((b.drop (512 * k)).take 512)) := by
  rw [wPut, if_pos h, if_neg hw]
/-- The bytes ahead of the stop were written; a write that is refused leaves the disk. -/
theorem dwrite_no {D : Dsk} {x : Int} {b : List UInt8} (h : D.why x b ≠ 0) : D.write x b = D := by
  unfold Dsk.write
  rw [if_neg h]
theorem wPut_pend (p : Int) (b : List UInt8) : ∀ (m k : Nat) (D : Dsk), (wPut D p b m k).1.pend.length ≤ D.pend.length + m
  | 0, k, D => by rw [wPut]; simp
  | m + 1, k, D => by
    rw [wPut]
    split
    · split
      · have h1 := wPut_pend p b m (k + 1) (D.write (p + (k : Int)) ((b.drop (512 * k)).take 512))
        have h2 := dwrite_pend D (p + (k : Int)) ((b.drop (512 * k)).take 512)
        omega
      · simp
    · simp
/-- What holds ahead of round k. -/
structure PtSt (h h' : Zn) (w wr : World) (D D' : Dsk) (p : Int) (b : List UInt8) (k0 k m : Nat) : Prop where
  dk : Dk wr h' D'
  ok : D'.Ok
  st : Stp h w h' wr
  eq : wPut D p b b.length k0 = wPut D' p b m k
  fuel : b.length ≤ 512 * (k + m)
  pend : D'.pend.length + k0 ≤ D.pend.length + k
set_option maxHeartbeats 4000000 in
set_option maxRecDepth 100000 in
theorem lgput_any (h : Zn) (D : Dsk) (gl : Nat) (a : Int) (n size i frm : Nat) (lv sv : Value) (last synced : Nat) (v0 : Value) (b : List UInt8) (w : World) (hd : Dk w h D) (hok : D.Ok) (hl : Lb w gl h.g a n size lv sv last synced) (hs : size ≤ 64) (hi : i ≤ 64) (h0 : 0 ≤ a) (h1 : a ≤ 65536) (hp : D.pend.length ≤ 900000)
    (hb : Ub w 0 v0 b) (hbl : b.length ≤ 40000) (hf : frm ≤ b.length) :
    Calls Tryz.prog 40 #[.pointer (some ⟨gl, 0, none⟩), .int .i64 (i : Int), .int .i64 (frm : Int), v0] w fun e w' => e = .returned (.int .i64 ((wPut D (a + (i : Int) * size) b b.length (frm / 512)).2 : Int)) ∧ ∃ h', Dk w' h' (wPut D (a + (i : Int) * size) b b.length (frm / 512)).1 ∧ Stp h w h' w' := by
  have HD := Lib.hid hd
  have HOK := Lib.hid hok
  have HL := Lib.hid hl
  have HB := Lib.hid hb
  have hmul := seg_mul hi hs
  have hpp : Hid (D.pend.length ≤ 900000) := hp
  obtain ⟨A0, c0, rfl, hlc, hcm, -, -⟩ := hb.bs.at
  have hq : (frm : Int).tdiv 512 = ((frm / 512 : Nat) : Int) := (Int.ofNat_tdiv frm 512).symm
  have hk0 : frm / 512 ≤ 100 := by omega
  obtain ⟨k0, hk9⟩ : ∃ k0, frm / 512 = k0 := ⟨_, rfl⟩
  rw [hk9] at hq hk0 ⊢
  clear hd hok hl hb hp hk9
  go_enter Tryz.func40, Tryz.ntmps40
  go_wp2_with fail
  go_loopw [9] (fun kv wr => ∃ (k m : Nat) (D' : Dsk) (h' : Zn), kv = .int .i64 (k : Int) ∧ k ≤ 100 ∧ Hid (PtSt h h' w wr D D' (a + (i : Int) * size) b k0 k m)) (fun kv _ => 200 - (intOf kv).toNat)
  case atStart => exact ⟨k0, b.length, D, h, by first | rfl | (rw [hq]), hk0, HD.out, HOK.out, Stp.refl _ _, rfl, by omega, by omega⟩
  case round =>
    obtain ⟨k, m, D', h', rfl, hk, PT⟩ := hrel
    obtain ⟨lo, hlo⟩ : ∃ lo, 512 * k = lo := ⟨_, rfl⟩
    have hw1 : IntKind.i64.wrap ((k : Int) * 512) = (lo : Int) := by rw [i64_in (by omega) (by omega)]; omega
    have hw2 : (k : Int) * 512 = (lo : Int) := by omega
    have hw8 : IntKind.i64.wrap (lo : Int) = (lo : Int) := i64_in (by omega) (by omega)
    by_cases hlt : lo < b.length
    · have LR := Lib.hid (PT.out.st.lb HD.out HL.out)
      have BR := Lib.hid (PT.out.st.ub HD.out HB.out)
      obtain ⟨_, A', c', he, _, _, _, hA⟩ := HB.out
      cases he
      obtain ⟨bb, ob, rfl, -, -⟩ := hA (by omega)
      clear hA
      have HLO := Lib.hid hlo
      have hi1 : (lo : Int) < (b.length : Int) := by omega
      have hi2 : ¬ c0 = lo := by omega
      obtain ⟨hj, hhj⟩ : ∃ hj, lo + 512 = hj := ⟨_, rfl⟩
      have hw3 : ((k : Int) + 1) * 512 = (hj : Int) := by omega
      have hw4 : IntKind.i64.wrap (((k : Int) + 1) * 512) = (hj : Int) := by rw [i64_in (by omega) (by omega)]; omega
      have hw5 : IntKind.i64.wrap ((i : Int) * size) = (i : Int) * size := i64_in (by omega) (by omega)
      have hw6 : IntKind.i64.wrap (a + (i : Int) * size) = a + (i : Int) * size := i64_in (by omega) (by omega)
      have hw7 : IntKind.i64.wrap (a + (i : Int) * size + k) = a + (i : Int) * size + k := i64_in (by omega) (by omega)
      have l0 : wr.drew.cell? ⟨gl, 0, none⟩ = some (.pointer (some ⟨h.g, 0, none⟩)) := LR.out.cell 0
      have l1 : wr.drew.cell? ⟨gl, 1, none⟩ = some (.int .i64 a) := LR.out.cell 1
      have l3 : wr.drew.cell? ⟨gl, 3, none⟩ = some (.int .i64 (size : Int)) := LR.out.cell 3
      have HJ := Lib.hid hhj
      clear hlo
      by_cases hbe : b.length < hj
      · have i4 : (b.length : Int) < (hj : Int) := by omega
        have hch : Hid ((b.drop lo).take (b.length - lo) = (b.drop (512 * k)).take 512) := by
          rw [Hid, HLO.out]
          have := HJ.out
          by_cases h9 : b.length - lo = 512
          · rw [h9]
          · rw [List.take_of_length_le (by rw [List.length_drop]; omega), List.take_of_length_le (by rw [List.length_drop]; omega)]
        have i5 : (lo : Int) ≤ (b.length : Int) := by omega
        have i6 : (b.length : Int) ≤ (c0 : Int) := by omega
        go_wp2_with fail
        go_still_tail 22, (by kernel_rfl)
        change wpList _ _ _ _ _ wr.drew
        have D2 := Lib.hid (PT.out.dk.later (below_drewN (Below.refl wr.heap.size wr) 1))
        have B2 := Lib.hid (BR.out.later (below_drewN (Below.refl wr.heap.size wr) 1))
        have S2 := Lib.hid (PT.out.st.trans (Stp.below (below_drewN (Below.refl wr.heap.size wr) 1)))
        have hg' : h.g = h'.g := S2.out.g.symm
        have hbs : Bs (UbS wr.drew 0) wr.drew (.slice (some ⟨bb, ob + lo, none⟩) (b.length - lo) (c0 - lo)) ((b.drop lo).take (b.length - lo)) := by
          have h9 := Bs.cut (k := lo) B2.out (by omega)
          rw [if_neg hi2, ← List.length_drop] at h9
          exact Bs.pre h9 (by rw [List.length_drop]; omega)
        rw [hch.out] at hbs
        have HBS := Lib.hid hbs
        have hck : ((b.drop (512 * k)).take 512).length ≤ 512 := by rw [List.length_take]; omega
        have hwo := dwrite_pend D' (a + (i : Int) * size + k) ((b.drop (512 * k)).take 512)
        obtain ⟨m, rfl⟩ : ∃ j, m = j + 1 := ⟨m - 1, by have := PT.out.fuel; have := HLO.out; omega⟩
        have hgo := Lib.hid (@wPut_go D' (a + (i : Int) * size) b m k (by have := HLO.out; omega))
        have hno := Lib.hid (@wPut_stop D' (a + (i : Int) * size) b m k (by have := HLO.out; omega))
        have hnw := Lib.hid (@dwrite_no D' (a + (i : Int) * size + k) ((b.drop (512 * k)).take 512))
        clear hbs hw1 hw2 hw3 hw4 hw5 hw6 hw7 hw8 l1 l3
        generalize (b.drop (512 * k)).take 512 = ch at *
        rw [hg'] at *
        go_wp2_with fail
        refine (dwrite_any h' D' (a + (i : Int) * size + k) _ _ ch wr.drew D2.out PT.out.ok (by unfold InI; omega) HBS.out (by omega) (by have := PT.out.pend; have := hpp.out; omega)).mono ?_
        rintro e w4 ⟨rfl, h4, hd4, hs4⟩
        obtain ⟨y, hy⟩ : ∃ y, D'.why (a + (i : Int) * size + k) ch = y := ⟨_, rfl⟩
        rw [hy]
        by_cases hy0 : y = 0
        · subst hy0
          have PT4 : Hid (PtSt h h4 w w4 D (D'.write (a + (i : Int) * size + k) ch) (a + (i : Int) * size) b k0 (k + 1) m) :=
            ⟨hd4, PT.out.ok.write _ _, S2.out.trans hs4, PT.out.eq.trans (hgo.out hy), by have := PT.out.fuel; omega, by have := PT.out.pend; omega⟩
          have hlk : k < 100 := by have := HLO.out; omega
          clear hy hd4 hs4 hwo
          go_wp2_with fail
          go_roundw
          case rel => exact ⟨k + 1, m, _, h4, by go_num, by omega, PT4⟩
          case measure => simp [intOf]; omega
        · have hy1 : ¬ ((y : Int) = 0) := by omega
          have hy2 : ((y : Int) == 0) = false := by rw [beq_eq_false_iff_ne]; omega
          have HY0 := Lib.hid hy0
          have HY := Lib.hid hy
          have D4 := Lib.hid hd4
          have S4 := Lib.hid (S2.out.trans hs4)
          clear hy0 hy hd4 hs4 hwo
          go_wp2_with fail
          go_ret
          have e1 := PT.out.eq.trans (hno.out (by rw [HY.out]; exact HY0.out))
          rw [HY.out] at e1
          rw [e1]
          refine ⟨rfl, h4, ?_, S4.out⟩
          have := D4.out
          rw [hnw.out (by rw [HY.out]; exact HY0.out)] at this
          exact this
      · have i4 : ¬ (b.length : Int) < (hj : Int) := by omega
        have hch : Hid ((b.drop lo).take (hj - lo) = (b.drop (512 * k)).take 512) := by
          rw [Hid, HLO.out]
          have := HJ.out
          by_cases h9 : hj - lo = 512
          · rw [h9]
          · rw [List.take_of_length_le (by rw [List.length_drop]; omega), List.take_of_length_le (by rw [List.length_drop]; omega)]
        have i5 : (lo : Int) ≤ (hj : Int) := by omega
        have i6 : (hj : Int) ≤ (c0 : Int) := by omega
        go_wp2_with fail
        go_still_tail 22, (by kernel_rfl)
        change wpList _ _ _ _ _ wr.drew
        have D2 := Lib.hid (PT.out.dk.later (below_drewN (Below.refl wr.heap.size wr) 1))
        have B2 := Lib.hid (BR.out.later (below_drewN (Below.refl wr.heap.size wr) 1))
        have S2 := Lib.hid (PT.out.st.trans (Stp.below (below_drewN (Below.refl wr.heap.size wr) 1)))
        have hg' : h.g = h'.g := S2.out.g.symm
        have hbs : Bs (UbS wr.drew 0) wr.drew (.slice (some ⟨bb, ob + lo, none⟩) (hj - lo) (c0 - lo)) ((b.drop lo).take (hj - lo)) := by
          have h9 := Bs.cut (k := lo) B2.out (by omega)
          rw [if_neg hi2, ← List.length_drop] at h9
          exact Bs.pre h9 (by rw [List.length_drop]; omega)
        rw [hch.out] at hbs
        have HBS := Lib.hid hbs
        have hck : ((b.drop (512 * k)).take 512).length ≤ 512 := by rw [List.length_take]; omega
        have hwo := dwrite_pend D' (a + (i : Int) * size + k) ((b.drop (512 * k)).take 512)
        obtain ⟨m, rfl⟩ : ∃ j, m = j + 1 := ⟨m - 1, by have := PT.out.fuel; have := HLO.out; omega⟩
        have hgo := Lib.hid (@wPut_go D' (a + (i : Int) * size) b m k (by have := HLO.out; omega))
        have hno := Lib.hid (@wPut_stop D' (a + (i : Int) * size) b m k (by have := HLO.out; omega))
        have hnw := Lib.hid (@dwrite_no D' (a + (i : Int) * size + k) ((b.drop (512 * k)).take 512))
        clear hbs hw1 hw2 hw3 hw4 hw5 hw6 hw7 hw8 l1 l3
        generalize (b.drop (512 * k)).take 512 = ch at *
        rw [hg'] at *
        go_wp2_with fail
        refine (dwrite_any h' D' (a + (i : Int) * size + k) _ _ ch wr.drew D2.out PT.out.ok (by unfold InI; omega) HBS.out (by omega) (by have := PT.out.pend; have := hpp.out; omega)).mono ?_
        rintro e w4 ⟨rfl, h4, hd4, hs4⟩
        obtain ⟨y, hy⟩ : ∃ y, D'.why (a + (i : Int) * size + k) ch = y := ⟨_, rfl⟩
        rw [hy]
        by_cases hy0 : y = 0
        · subst hy0
          have PT4 : Hid (PtSt h h4 w w4 D (D'.write (a + (i : Int) * size + k) ch) (a + (i : Int) * size) b k0 (k + 1) m) :=
            ⟨hd4, PT.out.ok.write _ _, S2.out.trans hs4, PT.out.eq.trans (hgo.out hy), by have := PT.out.fuel; omega, by have := PT.out.pend; omega⟩
          have hlk : k < 100 := by have := HLO.out; omega
          clear hy hd4 hs4 hwo
          go_wp2_with fail
          go_roundw
          case rel => exact ⟨k + 1, m, _, h4, by go_num, by omega, PT4⟩
          case measure => simp [intOf]; omega
        · have hy1 : ¬ ((y : Int) = 0) := by omega
          have hy2 : ((y : Int) == 0) = false := by rw [beq_eq_false_iff_ne]; omega
          have HY0 := Lib.hid hy0
          have HY := Lib.hid hy
          have D4 := Lib.hid hd4
          have S4 := Lib.hid (S2.out.trans hs4)
          clear hy0 hy hd4 hs4 hwo
          go_wp2_with fail
          go_ret
          have e1 := PT.out.eq.trans (hno.out (by rw [HY.out]; exact HY0.out))
          rw [HY.out] at e1
          rw [e1]
          refine ⟨rfl, h4, ?_, S4.out⟩
          have := D4.out
          rw [hnw.out (by rw [HY.out]; exact HY0.out)] at this
          exact this
    · have hfin : Hid (wPut D' (a + (i : Int) * size) b m k = (D', 0)) := wPut_end (by omega)
      clear hlo
      go_wp2_with fail
      go_ret
      have e1 := PT.out.eq
      rw [hfin.out] at e1
      rw [e1]
      exact ⟨rfl, h', PT.out.dk, PT.out.st⟩
end Go.Proofs.YtojlldalhhibmaaGreatDoor

namespace Go.Proofs.YtojlldalhhibmaaGreatDoor
open Go
set_option linter.unusedVariables false

/-- What a log keeps to. -/
structure Wl.Ok (l : Wl) : Prop where
  dok : l.D.Ok
  n2 : 2 ≤ l.n
  n64 : l.n ≤ 64
  s1 : 1 ≤ l.size
  s64 : l.size ≤ 64
  a0 : 0 ≤ l.a
  a1 : l.a + (l.n : Int) * l.size ≤ 65536
  last : l.last < U64
  synced : l.synced < U64
  nd : (l.live.map (·.at')).Nodup
  lt : ∀ s ∈ l.live, s.at' < l.n
  str : l.stream ≠ [] → l.live ≠ []
  slen : l.stream.length ≤ 512 * l.size
theorem Wl.Ok.len {l : Wl} (h : l.Ok) : l.live.length ≤ l.n := by
  have := nodup_len l.n (l.live.map (·.at')) h.nd (fun x hx => by
    obtain ⟨y, hy, rfl⟩ := List.mem_map.1 hx
    exact h.lt y hy)
  simpa using this
theorem Wl.Ok.am {l : Wl} (h : l.Ok) : l.a ≤ 65536 := by
  have := h.a1
  have h2 : (0 : Int) ≤ (l.n : Int) * l.size := Int.mul_nonneg (by omega) (by omega)
  omega

theorem bumpL_at : ∀ (l : List Sg), (bumpL l).map (·.at') = l.map (·.at')
  | [] => rfl
  | [s] => rfl
  | s :: t :: r => by
    have := bumpL_at (t :: r)
    simp only [bumpL, List.map_cons] at this ⊢
    rw [this]
theorem bumpL_snoc (s : Sg) : ∀ (l : List Sg), bumpL (l ++ [s]) = l ++ [{ s with count := (s.count + 1) % U64 }]
  | [] => rfl
  | [t] => rfl
  | t :: u :: r => by
    have := bumpL_snoc s (u :: r)
    simp only [List.cons_append, bumpL] at this ⊢
    rw [this]
theorem usedL_bump (l : List Sg) (i : Nat) : usedL (bumpL l) i = usedL l i := by
  have h : ∀ l : List Sg, usedL l i = (l.map (·.at')).any (· == i) := fun l => by
    unfold usedL
    rw [List.any_map]
    rfl
  rw [h, h, bumpL_at]
theorem wFresh_some {live : List Sg} {n i : Nat} (h : wFresh live n = some i) : i < n ∧ usedL live i = false := by
  unfold wFresh at h
  have h1 := List.find?_some h
  have h2 := List.mem_of_find?_eq_some h
  exact ⟨List.mem_range.1 h2, by simpa using h1⟩
/-- The search goes on from i. -/
theorem wFresh_at {live : List Sg} {n i : Nat} (hi : i < n) (hb : ∀ j, j < i → usedL live j = true) (hu : usedL live i = false) : wFresh live n = some i := by
  unfold wFresh
  rw [List.find?_range_eq_some]
  exact ⟨by simp [hu], List.mem_range.2 hi, fun j hj => by simp [hb j hj]⟩
theorem wFresh_none {live : List Sg} {n : Nat} (hb : ∀ j, j < n → usedL live j = true) : wFresh live n = none := by
  unfold wFresh
  rw [List.find?_eq_none]
  intro x hx
  simp [hb x (List.mem_range.1 hx)]

/-- To which segment a record of b bytes goes: what is in use then, the segment's bytes so far, where it is, whether it is a new one. -/
structure ApC (l : Wl) (q : Nat) (head b : List UInt8) (L : List Sg) (s : List UInt8) (i : Nat) (fr : Bool) : Prop where
  fresh : fr = true → (l.stream = [] ∨ 512 * l.size < l.stream.length + b.length) ∧ wFresh l.live l.n = some i ∧ L = l.live ++ [⟨i, q, 0⟩] ∧ s = head
  old : fr = false → ¬ (l.stream = [] ∨ 512 * l.size < l.stream.length + b.length) ∧ L = l.live ∧ s = l.stream ∧ ((l.live.getLast?).map (·.at')).getD 0 = i
def apFrom (l : Wl) (fr : Bool) : Nat := if fr then 0 else l.stream.length
section
variable {l : Wl} {q : Nat} {t head b : List UInt8} {L : List Sg} {s : List UInt8} {i : Nat} {fr : Bool}
/-- What becomes of it. -/
theorem wAppend_ok (hq : q = (l.last + 1) % U64) (hh : head = recB q titleB) (hb : b = recB q t) (ht : ¬ (32768 < t.length ∨ 512 * l.size < head.length + b.length)) (c : ApC l q head b L s i fr)
    {r : Dsk × Nat} (hr : wPut l.D (l.a + (i : Int) * l.size) (s ++ b) (s ++ b).length (apFrom l fr / 512) = r) (h0 : r.2 = 0) :
    wAppend l t = ({ l with D := r.1, live := bumpL L, stream := s ++ b, last := q }, q, 0) := by
  subst hq hh hb
  unfold wAppend
  rw [if_neg ht]
  cases fr with
  | true =>
    obtain ⟨h1, h2, rfl, rfl⟩ := c.fresh rfl
    rw [if_pos h1, h2]
    simp only [apFrom, if_true, Nat.zero_div] at hr
    simp only [hr, h0, if_true]
  | false =>
    obtain ⟨h1, rfl, rfl, h4⟩ := c.old rfl
    rw [if_neg h1]
    simp only [apFrom, Bool.false_eq_true, if_false] at hr
    simp only [h4, hr, h0, if_true]
theorem wAppend_no (hq : q = (l.last + 1) % U64) (hh : head = recB q titleB) (hb : b = recB q t) (ht : ¬ (32768 < t.length ∨ 512 * l.size < head.length + b.length)) (c : ApC l q head b L s i fr)
    {r : Dsk × Nat} (hr : wPut l.D (l.a + (i : Int) * l.size) (s ++ b) (s ++ b).length (apFrom l fr / 512) = r) (h0 : r.2 ≠ 0) :
    wAppend l t = (if fr then (({ l with D := wFree r.1 (l.a + (i : Int) * l.size) l.size, stream := [] } : Wl).sync, 0, r.2) else ({ l with D := r.1, stream := [] }, 0, r.2)) := by
  subst hq hh hb
  unfold wAppend
  rw [if_neg ht]
  cases fr with
  | true =>
    obtain ⟨h1, h2, rfl, rfl⟩ := c.fresh rfl
    rw [if_pos h1, h2]
    simp only [apFrom, if_true, Nat.zero_div] at hr
    simp only [hr, h0, if_true, if_false]
  | false =>
    obtain ⟨h1, rfl, rfl, h4⟩ := c.old rfl
    rw [if_neg h1]
    simp only [apFrom, Bool.false_eq_true, if_false] at hr
    simp only [h4, hr, h0, if_false, Bool.false_eq_true]
theorem ApC.lens (c : ApC l q head b L s i fr) (ok : l.Ok) (ht : ¬ (32768 < t.length ∨ 512 * l.size < head.length + b.length)) :
    (s ++ b).length ≤ 512 * l.size ∧ i < l.n ∧ apFrom l fr ≤ (s ++ b).length ∧ usedL l.live i = !fr ∧ L.length ≤ l.n := by
  cases fr with
  | true =>
    obtain ⟨h1, h2, rfl, rfl⟩ := c.fresh rfl
    have h3 := wFresh_some h2
    refine ⟨by rw [List.length_append]; omega, h3.1, by simp [apFrom], h3.2, ?_⟩
    have hnd : ((l.live ++ [(⟨i, q, 0⟩ : Sg)]).map (fun s : Sg => s.at')).Nodup := by
      rw [List.map_append, List.nodup_append]
      refine ⟨ok.nd, by simp, fun x hx y hy e9 => ?_⟩
      simp only [List.map_cons, List.map_nil, List.mem_singleton] at hy
      obtain ⟨z, hz, e⟩ := List.mem_map.1 hx
      have : usedL l.live i = true := usedL_iff.2 ⟨z, hz, (e.trans e9).trans hy⟩
      rw [h3.2] at this
      cases this
    have := nodup_len l.n _ hnd (fun x hx => by
      rw [List.map_append, List.mem_append] at hx
      rcases hx with hx | hx
      · obtain ⟨z, hz, rfl⟩ := List.mem_map.1 hx
        exact ok.lt z hz
      · simp only [List.map_cons, List.map_nil, List.mem_singleton] at hx
        rw [hx]; exact h3.1)
    simpa using this
  | false =>
    obtain ⟨h1, rfl, rfl, h4⟩ := c.old rfl
    have hne : l.live ≠ [] := ok.str (fun e => h1 (.inl e))
    have hm := List.getLast_mem hne
    rw [List.getLast?_eq_some_getLast hne] at h4
    simp only [Option.map_some, Option.getD_some] at h4
    subst h4
    refine ⟨by rw [List.length_append]; omega, ok.lt _ hm, by simp [apFrom], ?_, ok.len⟩
    simp only [Bool.not_false]
    exact usedL_iff.2 ⟨_, hm, rfl⟩
theorem ApC.ne (c : ApC l q head b L s i fr) (ok : l.Ok) : ∃ L0 s0, L = L0 ++ [s0] ∧ s0.at' = i := by
  cases fr with
  | true =>
    obtain ⟨h1, h2, rfl, rfl⟩ := c.fresh rfl
    exact ⟨_, _, rfl, rfl⟩
  | false =>
    obtain ⟨h1, rfl, rfl, h4⟩ := c.old rfl
    have hne : l.live ≠ [] := ok.str (fun e => h1 (.inl e))
    rw [List.getLast?_eq_some_getLast hne] at h4
    simp only [Option.map_some, Option.getD_some] at h4
    exact ⟨_, _, (List.dropLast_concat_getLast hne).symm, h4⟩
theorem ApC.ok (c : ApC l q head b L s i fr) (ok : l.Ok) (hq : q < U64) (ht : ¬ (32768 < t.length ∨ 512 * l.size < head.length + b.length)) {D : Dsk} (hD : D.Ok) : ({ l with D := D, live := bumpL L, stream := s ++ b, last := q } : Wl).Ok := by
  have hl := c.lens (t := t) ok ht
  have hin : (L.map (·.at')).Nodup ∧ ∀ x ∈ L, x.at' < l.n := by
    cases fr with
    | true =>
      obtain ⟨h1, h2, rfl, rfl⟩ := c.fresh rfl
      have h3 := wFresh_some h2
      refine ⟨?_, fun x hx => ?_⟩
      · rw [List.map_append, List.nodup_append]
        refine ⟨ok.nd, by simp, fun x hx y hy e9 => ?_⟩
        simp only [List.map_cons, List.map_nil, List.mem_singleton] at hy
        obtain ⟨z, hz, e⟩ := List.mem_map.1 hx
        have : usedL l.live i = true := usedL_iff.2 ⟨z, hz, (e.trans e9).trans hy⟩
        rw [h3.2] at this
        cases this
      · rw [List.mem_append, List.mem_singleton] at hx
        rcases hx with hx | rfl
        · exact ok.lt x hx
        · exact h3.1
    | false =>
      obtain ⟨h1, rfl, rfl, h4⟩ := c.old rfl
      exact ⟨ok.nd, ok.lt⟩
  refine ⟨hD, ok.n2, ok.n64, ok.s1, ok.s64, ok.a0, ok.a1, hq, ok.synced, by rw [bumpL_at]; exact hin.1, fun x hx => ?_, fun _ e => ?_, hl.1⟩
  · have : x.at' ∈ (bumpL L).map (·.at') := List.mem_map.2 ⟨x, hx, rfl⟩
    rw [bumpL_at] at this
    obtain ⟨z, hz, e⟩ := List.mem_map.1 this
    rw [← e]
    exact hin.2 z hz
  · obtain ⟨L0, s0, rfl, _⟩ := c.ne ok
    have e2 : (bumpL (L0 ++ [s0])) = [] := e
    rw [bumpL_snoc] at e2
    simp at e2
end
theorem Wl.Ok.drop {l : Wl} (ok : l.Ok) {D : Dsk} (hD : D.Ok) : ({ l with D := D, stream := [] } : Wl).Ok := ⟨hD, ok.n2, ok.n64, ok.s1, ok.s64, ok.a0, ok.a1, ok.last, ok.synced, ok.nd, ok.lt, fun h => (h rfl).elim, Nat.zero_le _⟩
theorem Wl.Ok.sync {l : Wl} (ok : l.Ok) : l.sync.Ok := ⟨ok.dok.sync, ok.n2, ok.n64, ok.s1, ok.s64, ok.a0, ok.a1, ok.last, ok.last, ok.nd, ok.lt, ok.str, ok.slen⟩
end Go.Proofs.YtojlldalhhibmaaGreatDoor

namespace Go.Proofs.YtojlldalhhibmaaGreatDoor
open Go Go.RowKit
set_option linter.unusedVariables false

/-- Segments of the call's own. -/
theorem sg_open {w : World} {B : Nat} {v : Value} {L : List Sg} (h : w.ownsRow B 79 3 v L.length (sgcs L)) (hn : 0 < L.length) : ∃ g c, v = .slice (some ⟨g, 0, none⟩) L.length c ∧ B ≤ g ∧ Hid (∀ j, w.frozen? ⟨g, j, none⟩ = false) ∧
    Hid (∀ j (hj : j < L.length), w.cell? ⟨g, j * 3, none⟩ = some (.int .i64 (L[j].at' : Int)) ∧ w.cell? ⟨g, j * 3 + 1, none⟩ = some (.int .u64 (L[j].base : Int)) ∧ w.cell? ⟨g, j * 3 + 2, none⟩ = some (.int .u64 (L[j].count : Int))) := by
  obtain ⟨A, c, hv, _, _, hA⟩ := Rg3.at (KSl.of_own (by omega) h)
  rcases h.2 with ⟨h2, h3⟩ | ⟨g, cap, cur, h2, hg, hh, _⟩
  · omega
  · obtain ⟨b, o, hA1, _, hc⟩ := hA hn
    rw [h2] at hv
    injection hv with e1 _ e3
    rw [hA1] at e1
    injection e1 with e1
    injection e1 with e1 e2
    subst e1 e2
    refine ⟨g, cap, h2, hg, fun j => by simp [World.frozen?, hh], fun j hj => ?_⟩
    have := hc j hj
    simpa using this
theorem sgcs_count (a b c c' : Nat) : ∀ (L0 : List Sg), sgcs (L0 ++ [⟨a, b, c'⟩]) = (sgcs (L0 ++ [⟨a, b, c⟩])).set (L0.length * 3 + 2) (.int .u64 (c' : Int))
  | [] => rfl
  | s :: L0 => by
    have ih := sgcs_count a b c c' L0
    have e : ∀ (x : Sg) (L : List Sg), sgcs (x :: L) = .int .i64 (x.at' : Int) :: .int .u64 (x.base : Int) :: .int .u64 (x.count : Int) :: sgcs L := fun _ _ => rfl
    rw [List.cons_append, e, ih, List.cons_append, e, List.length_cons, show (L0.length + 1) * 3 + 2 = L0.length * 3 + 2 + 1 + 1 + 1 by omega]
    simp only [List.set_cons_succ]
/-- The last one's count goes up. -/
theorem sg_bump {w : World} {B g c : Nat} {L0 : List Sg} {s0 : Sg} (h : w.ownsRow B 79 3 (.slice (some ⟨g, 0, none⟩) (L0.length + 1) c) (L0 ++ [s0]).length (sgcs (L0 ++ [s0]))) :
    (w.setCell ⟨g, L0.length * 3 + 2, none⟩ (.int .u64 (((s0.count + 1) % U64 : Nat) : Int))).ownsRow B 79 3 (.slice (some ⟨g, 0, none⟩) (L0.length + 1) c) (bumpL (L0 ++ [s0])).length (sgcs (bumpL (L0 ++ [s0]))) := by
  obtain ⟨a, b, k⟩ := s0
  rw [bumpL_snoc, sgcs_count a b k]
  simp only [List.length_append, List.length_singleton] at h ⊢
  exact (World.ownsRow.stored h (L0.length * 3 + 2) _).1
theorem sg_last {w : World} {B : Nat} {A : Option Addr} {c : Nat} {L0 : List Sg} {s0 : Sg} (h : w.ownsRow B 79 3 (.slice A (L0 ++ [s0]).length c) (L0 ++ [s0]).length (sgcs (L0 ++ [s0]))) : ∃ g, A = some ⟨g, 0, none⟩ ∧ B ≤ g ∧ Hid (∀ j, w.frozen? ⟨g, j, none⟩ = false) ∧
    Hid (w.cell? ⟨g, L0.length * 3, none⟩ = some (.int .i64 (s0.at' : Int)) ∧ w.cell? ⟨g, L0.length * 3 + 2, none⟩ = some (.int .u64 (s0.count : Int))) := by
  have hl : L0.length < (L0 ++ [s0]).length := by simp
  obtain ⟨g, c', hv, hB, FZ, CE⟩ := sg_open h (by omega)
  injection hv with e1 _ _
  have := CE.out L0.length hl
  have hx : (L0 ++ [s0])[L0.length]'hl = s0 := by simp
  rw [hx] at this
  exact ⟨g, e1, hB, FZ, this.1, this.2.2⟩
/-- Bytes were appended elsewhere. -/
theorem sg_keep {w w' : World} {B B' g c : Nat} {L0 : List Sg} {s0 : Sg} {v : Value} {l : List UInt8} {i : Nat} (h : w.ownsRow B 79 3 (.slice (some ⟨g, 0, none⟩) (L0 ++ [s0]).length c) (L0 ++ [s0]).length (sgcs (L0 ++ [s0]))) (ho : Ob 5 w B' v l) (hg : w.grownBy w' v.ownBlock) (hi : s0.at' = i) :
    Hid (w'.ownsRow B 79 3 (.slice (some ⟨g, 0, none⟩) (L0 ++ [s0]).length c) (L0 ++ [s0]).length (sgcs (L0 ++ [s0]))) ∧ w'.cell? ⟨g, L0.length * 3, none⟩ = some (.int .i64 (i : Int)) := by
  have h2 := own_sameK (ks := [some 79]) h (SameK.grown hg fun z t hz ht => by
    have := kind_own ho hz
    rw [this] at ht
    cases ht
    decide) (by decide)
  obtain ⟨g', e, _, _, CE⟩ := sg_last h2
  injection e with e
  injection e with e
  subst e hi
  exact ⟨h2, CE.out.1⟩
theorem wrap64_small {m : Nat} (h : m ≤ 64) : wrap64 (m : Int) = (m : Int) := by simp [wrap64]; omega
theorem ApC.last {l : Wl} {q : Nat} {t head b : List UInt8} {L0 : List Sg} {s0 : Sg} {s : List UInt8} {i : Nat} {fr : Bool} (c : ApC l q head b (L0 ++ [s0]) s i fr) (ok : l.Ok) (ht : ¬ (32768 < t.length ∨ 512 * l.size < head.length + b.length)) : L0.length ≤ 64 := by
  have h1 := (c.lens (t := t) ok ht).2.2.2.2
  have h2 := ok.n64
  rw [List.length_append, List.length_singleton] at h1
  omega
/-- THE LOG l LIES AT gl, its disk at h. -/
structure LgV (w : World) (gl : Nat) (h : Zn) (l : Wl) (lv sv : Value) : Prop where
  dk : Dk w h l.D
  lb : Lb w gl h.g l.a l.n l.size lv sv l.last l.synced
  live : Rg3 w lv l.live
  str : Ub w 0 sv l.stream
def Lg (w : World) (gl : Nat) (h : Zn) (l : Wl) : Prop := ∃ lv sv, LgV w gl h l lv sv
section
variable {w w' : World} {gl : Nat} {h h' : Zn} {l : Wl} {lv sv : Value} {D' : Dsk}
theorem LgV.later (g : LgV w gl h l lv sv) (hb : Below w.heap.size w w') : LgV w' gl h l lv sv := ⟨g.dk.later hb, g.lb.later hb, KSl.later g.live hb, g.str.later hb⟩
theorem LgV.drew (g : LgV w gl h l lv sv) : LgV w.drew gl h l lv sv := g.later (below_drewN (Below.refl _ _) 1)
theorem LgV.stp (g : LgV w gl h l lv sv) (k : Dk w' h' D') (s : Stp h w h' w') : LgV w' gl h' { l with D := D' } lv sv :=
  ⟨k, by rw [s.g]; exact s.lb g.dk g.lb, KSl.same g.live (s.same (ks := [some 79]) g.dk (by decide) (by decide) (by decide)) (by decide), s.ub g.dk g.str⟩
theorem Lg.later (g : Lg w gl h l) (hb : Below w.heap.size w w') : Lg w' gl h l := by
  obtain ⟨lv, sv, g⟩ := g
  exact ⟨lv, sv, g.later hb⟩
end

def lgKs : List (Option TypeId) := some 79 :: dkKs
theorem SameK.dk {w w' : World} (h : SameK lgKs w w') : SameK dkKs w w' := h.less fun t ht => List.mem_cons_of_mem _ ht
theorem LgV.sync {w w' : World} {gl : Nat} {h h' : Zn} {l : Wl} {lv sv : Value} (g : LgV w gl h l lv sv) (hd : Dk w' h' l.D.sync) (hl : Lb w' gl h.g l.a l.n l.size lv sv l.last l.last) (m : Mtp h gl w h' w') : LgV w' gl h' l.sync lv sv := by
  have hs : SameK [some 79, some 5] w w' := m.sameL g.dk g.lb (by decide) (by decide) (by decide) (by decide)
  exact ⟨hd, by rw [m.g]; exact hl, KSl.same g.live hs (by decide), g.str.same hs (by decide)⟩
section
variable {w w7 : World} {gl gL c8 B : Nat} {h h7 : Zn} {l : Wl} {D7 : Dsk} {lv sv v5 : Value} {L0 : List Sg} {s0 : Sg} {S5 : List UInt8} {q : Nat}
/-- The record stands: count, segments, stream and number are put. -/
theorem lg_done (G : LgV w7 gl h7 { l with D := D7 } lv sv) (hL : w7.ownsRow B 79 3 (.slice (some ⟨gL, 0, none⟩) (L0.length + 1) c8) (L0 ++ [s0]).length (sgcs (L0 ++ [s0]))) (hB : w.heap.size ≤ gL) (hs : Ub w7 0 v5 S5) (st : Stp h w h7 w7)
    {W8 : World} (hW : w7.setCell ⟨gL, L0.length * 3 + 2, none⟩ (.int .u64 (((s0.count + 1) % U64 : Nat) : Int)) = W8) :
    Lb W8 gl h7.g l.a l.n l.size lv sv l.last l.synced ∧ LgV (((W8.setCell ⟨gl, 4, none⟩ (.slice (some ⟨gL, 0, none⟩) (L0.length + 1) c8)).setCell ⟨gl, 5, none⟩ v5).setCell ⟨gl, 6, none⟩ (.int .u64 (q : Int))) gl h7 { l with D := D7, live := bumpL (L0 ++ [s0]), stream := S5, last := q } (.slice (some ⟨gL, 0, none⟩) (L0.length + 1) c8) v5 ∧
      Mtp h gl w h7 (((W8.setCell ⟨gl, 4, none⟩ (.slice (some ⟨gL, 0, none⟩) (L0.length + 1) c8)).setCell ⟨gl, 5, none⟩ v5).setCell ⟨gl, 6, none⟩ (.int .u64 (q : Int))) := by
  have hne : gl ≠ gL := fun e => own_ne hL G.lb (by decide) (by rw [e]; rfl)
  have hg : w7.grownBy (w7.setCell ⟨gL, L0.length * 3 + 2, none⟩ (.int .u64 (((s0.count + 1) % U64 : Nat) : Int))) (some gL) := by
    have h9 := hL
    simp only [List.length_append, List.length_singleton] at h9
    exact (World.ownsRow.stored h9 (L0.length * 3 + 2) _).2
  have k8 : SameK dkKs w7 W8 := by
    rw [← hW]
    exact SameK.grown hg fun z t hz ht => by
      have := kind_own hL hz
      rw [this] at ht
      cases ht
      decide
  have b8 : Lb W8 gl h7.g l.a l.n l.size lv sv l.last l.synced := by rw [← hW]; exact Blk.far (p := ⟨gL, L0.length * 3 + 2, none⟩) G.lb hne _
  have o8 := sg_bump hL
  rw [hW] at o8
  have k9 : SameK lgKs W8 (((W8.setCell ⟨gl, 4, none⟩ (.slice (some ⟨gL, 0, none⟩) (L0.length + 1) c8)).setCell ⟨gl, 5, none⟩ v5).setCell ⟨gl, 6, none⟩ (.int .u64 (q : Int))) :=
    ((SameK.setCell (p := ⟨gl, 4, none⟩) b8 (by decide) _).trans (SameK.setCell (p := ⟨gl, 5, none⟩) (b8.put 4 _) (by decide) _)).trans (SameK.setCell (p := ⟨gl, 6, none⟩) ((b8.put 4 _).put 5 _) (by decide) _)
  have l9 : (((W8.setCell ⟨gl, 4, none⟩ (.slice (some ⟨gL, 0, none⟩) (L0.length + 1) c8)).setCell ⟨gl, 5, none⟩ v5).setCell ⟨gl, 6, none⟩ (.int .u64 (q : Int))).ownsRow B 79 3 (.slice (some ⟨gL, 0, none⟩) (L0.length + 1) c8) (bumpL (L0 ++ [s0])).length (sgcs (bumpL (L0 ++ [s0]))) := own_sameK o8 k9 (by decide)
  refine ⟨b8, ⟨(G.dk.same k8).same k9.dk, ((b8.put 4 _).put 5 _).put 6 _, KSl.of_own (by omega) l9, (hs.same k8 (by decide)).same k9 (by decide)⟩, st.g, ?_, st.has⟩
  rw [← hW]
  exact ((((st.turn.mono (F' := fun b => h.has b ∨ b = gl) fun b hb _ => Or.inl hb).setCell (p := ⟨gL, L0.length * 3 + 2, none⟩) (.inr hB) _).setCell (p := ⟨gl, 4, none⟩) (.inl (.inr rfl)) _).setCell (p := ⟨gl, 5, none⟩) (.inl (.inr rfl)) _).setCell (p := ⟨gl, 6, none⟩) (.inl (.inr rfl)) _
/-- The write was refused: there is no current segment. -/
theorem lg_fail (G : LgV w7 gl h7 { l with D := D7 } lv sv) (hL : w7.ownsRow B 79 3 (.slice (some ⟨gL, 0, none⟩) (L0.length + 1) c8) (L0 ++ [s0]).length (sgcs (L0 ++ [s0]))) (st : Stp h w h7 w7)
    {W8 : World} (hW : w7.setCell ⟨gl, 5, none⟩ (.slice none 0 0) = W8) :
    LgV W8 gl h7 { l with D := D7, stream := [] } lv (.slice none 0 0) ∧ Mtp h gl w h7 W8 ∧ W8.cell? ⟨gL, L0.length * 3, none⟩ = some (.int .i64 (s0.at' : Int)) := by
  subst hW
  have k9 : SameK lgKs w7 (w7.setCell ⟨gl, 5, none⟩ (.slice none 0 0)) := SameK.setCell (p := ⟨gl, 5, none⟩) G.lb (by decide) _
  have o9 := own_sameK hL k9 (by decide)
  have e9 : (L0 ++ [s0]).length = L0.length + 1 := by simp
  rw [← e9] at o9
  obtain ⟨g', e, _, _, CE⟩ := sg_last o9
  injection e with e
  injection e with e
  subst e
  exact ⟨⟨G.dk.same k9.dk, G.lb.put 5 _, KSl.same G.live k9 (by decide), (Sl.nil : Bs _ _ _ [])⟩, ⟨st.g, (st.turn.mono (F' := fun b => h.has b ∨ b = gl) fun b hb _ => Or.inl hb).setCell (p := ⟨gl, 5, none⟩) (.inl (.inr rfl)) _, st.has⟩, CE.out.1⟩
theorem Mtp.stp {w1 w2 : World} {h1 h2 : Zn} (m : Mtp h gl w h1 w1) (s : Stp h1 w1 h2 w2) : Mtp h gl w h2 w2 :=
  ⟨s.g.trans m.g, m.turn.trans s.turn fun b hb => (m.has b hb).imp Or.inl id, fun b hb => (s.has b hb).elim (m.has b) fun h9 => .inr (Nat.le_trans m.turn.size h9)⟩
theorem Mtp.mtp {w1 w2 : World} {h1 h2 : Zn} (m : Mtp h gl w h1 w1) (s : Mtp h1 gl w1 h2 w2) : Mtp h gl w h2 w2 :=
  ⟨s.g.trans m.g, m.turn.trans s.turn fun b hb => hb.elim (fun h9 => (m.has b h9).imp Or.inl id) (fun h9 => .inl (.inr h9)), fun b hb => (s.has b hb).elim (m.has b) fun h9 => .inr (Nat.le_trans m.turn.size h9)⟩
end
end Go.Proofs.YtojlldalhhibmaaGreatDoor
