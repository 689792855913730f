/- What the proof of MetaPlays needs, part 8. -/
import Derived.Test.YtpmndmgfoiagnaaDoorMetaPlaysJ7
import Derived.BigRegion
import Derived.Laws.Rows

namespace Go.Proofs.YtpmndmgfoiagnaaDoor
open Go Go.RowKit
set_option linter.unusedVariables false

/-- The document's Last: below 0 while nothing was written. -/
def rLast (x : Nat × Int × List UInt8) : Int := if x.1 = 0 then -1 else x.2.1
/-- A meta page of the document's. -/
def rmV (a : Int) (x : Nat × Int × List UInt8) : Value := .agg #[.int .i64 a, .int .i64 (rLast x), .int .u64 (x.1 : Int)]
theorem Blk.puts3 {w : World} {g : Nat} {t : TypeId} {a b c : Value} (h : Blk w g t #[a, b, c]) (x y z : Value) :
    Blk (((w.setCell ⟨g, 0, none⟩ x).setCell ⟨g, 1, none⟩ y).setCell ⟨g, 2, none⟩ z) g t #[x, y, z] := ((h.put 0 x).put 1 y).put 2 z
theorem below_puts3 {B : Nat} {w0 w : World} {g : Nat} (h : Below B w0 w) (hg : B ≤ g) (x y z : Value) : Below B w0 (((w.setCell ⟨g, 0, none⟩ x).setCell ⟨g, 1, none⟩ y).setCell ⟨g, 2, none⟩ z) :=
  ((h.setCell hg _).setCell hg _).setCell hg _
theorem rmetaTy : StructTy Tryd.prog 53 3 := ⟨⟨_, Tryd.underlying53⟩, by kernel_rfl⟩
structure RmSt (w wr : World) (D Z : Array Value) (a : Int) (x : Nat × Int × List UInt8) : Prop where
  d : Blk wr w.heap.size 49 D
  r : Blk wr (w.heap.size + 1) 53 Z
  m : Blk wr (w.heap.size + 1 + 1) 53 #[.int .i64 a, .int .i64 (rLast x), .int .u64 (x.1 : Int)]
  below : Below w.heap.size w wr
  size : w.heap.size + 1 + 1 < wr.heap.size
theorem RmSt.start (w : World) (D Z : Array Value) (a : Int) : RmSt w (((w.alloc (.cells D 49)).alloc (.cells Z 53)).alloc (.cells #[.int .i64 a, .int .i64 (-1), .int .u64 0] 53)) D Z a (0, 1, []) := by
  refine ⟨((Blk.new _ _ _).alloc _).alloc _, ?_, ?_, (((Below.refl _ _).alloc (Nat.le_refl _) _).alloc (by simp) _).alloc (by simp; omega) _, by simp⟩
  · have := (Blk.new (w.alloc (.cells D 49)) 53 Z).alloc (.cells #[.int .i64 a, .int .i64 (-1), .int .u64 0] 53)
    simpa using this
  · have := Blk.new ((w.alloc (.cells D 49)).alloc (.cells Z 53)) 53 #[.int .i64 a, .int .i64 (-1), .int .u64 0]
    have e : rLast (0, 1, []) = -1 := rfl
    rw [e]
    simpa using this
theorem RmSt.to {w wr w' : World} {D Z : Array Value} {a : Int} {x : Nat × Int × List UInt8} (s : RmSt w wr D Z a x) (hb : Below wr.heap.size wr w') : RmSt w w' D Z a x :=
  ⟨s.d.later hb, s.r.later hb, s.m.later hb, s.below.trans (hb.mono s.below.size), Nat.lt_of_lt_of_le s.size hb.size⟩
theorem rm_put {w W : World} {D Z : Array Value} {a : Int} {x : Nat × Int × List UInt8} (s : RmSt w W D Z a x) {q : Nat} {i : Int} {t : List UInt8} (hq : q ≠ 0) :
    RmSt w ((W.setCell ⟨w.heap.size + 1 + 1, 2, none⟩ (.int .u64 (q : Int))).setCell ⟨w.heap.size + 1 + 1, 1, none⟩ (.int .i64 i)).drew D Z a (q, i, t) := by
  have e : rLast (q, i, t) = i := if_neg hq
  refine ⟨(s.d.far (p := ⟨w.heap.size + 1 + 1, 2, none⟩) (by simp; omega) _).far (p := ⟨w.heap.size + 1 + 1, 1, none⟩) (by simp; omega) _, (s.r.far (p := ⟨w.heap.size + 1 + 1, 2, none⟩) (by simp) _).far (p := ⟨w.heap.size + 1 + 1, 1, none⟩) (by simp) _, ?_, ((s.below.setCell (p := ⟨w.heap.size + 1 + 1, 2, none⟩) (by simp; omega) _).setCell (p := ⟨w.heap.size + 1 + 1, 1, none⟩) (by simp; omega) _).drew, by have := s.size; simpa using this⟩
  rw [e]
  exact ((s.m.put 2 (.int .u64 (q : Int))).put 1 (.int .i64 i)).drew
theorem mtStep_rec (f : SF) (a : Int) (x : Nat × Int × List UInt8) (i : Int) : mtStep f a x i = match f (a + i) with | some s => (match recGet s with | some ((q, t), n) => if n = s.length ∧ x.1 < q then (q, i, t) else x | none => x) | none => x := by
  unfold mtStep
  cases f (a + i) with
  | none => rfl
  | some s =>
    simp only
    unfold tellsB
    cases recGet s with
    | none => rfl
    | some y =>
      obtain ⟨⟨q, t⟩, n⟩ := y
      simp only
      by_cases h1 : n = s.length ∧ x.1 < q
      · rw [if_pos h1, if_pos ⟨h1.1, by omega⟩]
        simp only
        rw [if_pos h1.2]
      · rw [if_neg h1]
        by_cases h2 : n = s.length ∧ 0 < q
        · rw [if_pos h2]
          simp only
          rw [if_neg (fun h => h1 ⟨h2.1, h⟩)]
        · rw [if_neg h2]
theorem rm_new1 (w : World) (o : Obj) (t : TypeId) (cs : Array Value) : Blk ((w.alloc o).alloc (.cells cs t)) (w.heap.size + 1) t cs := by
  have := Blk.new (w.alloc o) t cs
  simpa using this
def RoPost (D : Dsk) (a : Int) (w : World) (e : Ending) (w' : World) : Prop :=
  e = .returned (.tuple #[rmV a (mtOpen D.view a), .string (st (mtOpen D.view a).2.2), .int .i64 (mtErr (mtOpen D.view a) : Nat)]) ∧ Below w.heap.size w w'
theorem ro_fin {D : Dsk} {a : Int} {w w' : World} {x : Nat × Int × List UInt8} {b : List UInt8} {ev rl : Int} (hx : mtOpen D.view a = x) (hr : rLast x = rl) (hb : x.2.2 = b) (he : ev = (mtErr x : Nat)) (h : Below w.heap.size w w') :
    RoPost D a w (.returned (.tuple #[.agg #[.int .i64 a, .int .i64 rl, .int .u64 (x.1 : Int)], .string (st b), .int .i64 ev])) w' := by
  subst hr hb he
  unfold RoPost
  rw [hx]
  exact ⟨rfl, h⟩
theorem mtUp_last (f : SF) (a : Int) : ∀ i, 0 ≤ (mtUp f a i).2.1
  | 0 => (by decide : (0 : Int) ≤ 1)
  | i + 1 => by
    rw [mtUp, mtStep_eq]
    cases tellsO (f (a + (i : Int))) with
    | none => exact mtUp_last f a i
    | some y =>
      obtain ⟨q, t⟩ := y
      simp only
      split
      · simp
      · exact mtUp_last f a i

set_option maxHeartbeats 1000000 in
theorem rmopen_bad (v : Value) (D : Dsk) (a : Int) (w : World) (hr : RDd w v D) (h : a < 0 ∨ 65534 < a) :
    Calls Tryd.prog 17 #[v, .int .i64 a] w fun e w' => e = .returned (.tuple #[.agg #[.int .i64 0, .int .i64 0, .int .u64 0], .string (st []), .int .i64 122]) ∧ Below w.heap.size w w' := by
  obtain ⟨A1, c1, A2, c2, A3, c3, rfl⟩ := hr.shape
  clear hr
  have B1 := rm_new1 w (.cells #[.int .i64 D.size, .int .i64 D.limit, .slice A1 D.nv c1, .slice A2 D.ng c2, .slice A3 D.pend.length c3] 49) 53 #[.int .i64 0, .int .i64 0, .int .u64 0]
  have Q1 := ((Below.refl w.heap.size w).alloc (Nat.le_refl _) (.cells #[.int .i64 D.size, .int .i64 D.limit, .slice A1 D.nv c1, .slice A2 D.ng c2, .slice A3 D.pend.length c3] 49)).alloc (by simp) (.cells #[.int .i64 0, .int .i64 0, .int .u64 0] 53)
  have HB1 := Lib.hid B1
  have HQ1 := Lib.hid Q1
  clear B1 Q1
  rcases Decidable.em (a < 0) with h0 | h0
  case' inl => have hx := h0
  case' inr => have hx : 65534 < a := h.resolve_left h0
  all_goals
    clear h
    go_enter Tryd.func17, Tryd.ntmps17
    go_wp2_with fail
    exact bodyPost_ret (results_cell3 rfl _ _ (w.heap.size + 1) rfl HB1.out rmetaTy) rfl ⟨rfl, HQ1.out⟩

set_option maxHeartbeats 4000000 in
set_option maxRecDepth 100000 in
theorem rmopen_any (v : Value) (D : Dsk) (a : Int) (w : World) (hr : RDd w v D) (hok : D.Ok) (h0 : 0 ≤ a) (h1 : a ≤ 65534) :
    Calls Tryd.prog 17 #[v, .int .i64 a] w (RoPost D a w) := by
  have HR := Lib.hid hr
  obtain ⟨A1, c1, A2, c2, A3, c3, rfl⟩ := hr.shape
  have HOK := Lib.hid hok
  have n0 : ¬ a < 0 := by omega
  have n1 : ¬ 65534 < a := by omega
  have S0 : Hid (RmSt w _ _ _ a (mtUp D.view a 0)) := RmSt.start w #[.int .i64 D.size, .int .i64 D.limit, .slice A1 D.nv c1, .slice A2 D.ng c2, .slice A3 D.pend.length c3] #[.int .i64 0, .int .i64 0, .int .u64 0] a
  clear hr hok
  go_enter Tryd.func17, Tryd.ntmps17
  go_wp2_with fail
  go_loopw [8, 9] (fun bv iv wr => ∃ i : Nat, iv = .int .i64 (i : Int) ∧ i ≤ 2 ∧ bv = .string (st (mtUp D.view a i).2.2) ∧ Hid (RmSt w wr #[.int .i64 D.size, .int .i64 D.limit, .slice A1 D.nv c1, .slice A2 D.ng c2, .slice A3 D.pend.length c3] #[.int .i64 0, .int .i64 0, .int .u64 0] a (mtUp D.view a i))) (fun _ iv _ => 2 - (intOf iv).toNat)
  case atStart => exact ⟨0, rfl, by omega, rfl, S0⟩
  case round =>
    clear S0
    obtain ⟨i, rfl, hi, rfl, HST⟩ := hrel
    by_cases hil : i < 2
    · have HUP : Hid (mtUp D.view a (i + 1) = mtStep D.view a (mtUp D.view a i) (i : Int)) := rfl
      obtain ⟨x, hx⟩ : ∃ x, mtUp D.view a i = x := ⟨_, rfl⟩
      rw [hx] at HUP HST
      rw [hx]
      obtain ⟨num, last, body⟩ := x
      clear hx
      have d2 : wr.cell? ⟨w.heap.size, 2, none⟩ = some (.slice A1 D.nv c1) := HST.out.d.cell 2
      go_wp2_with fail
      refine (rvfind_any (D := D) (HR.out.later HST.out.below).rv HOK.out (a + (i : Int))).mono ?_
      rintro e w1 ⟨rfl, rfl⟩
      obtain ⟨F, hF⟩ : ∃ F, D.view (a + (i : Int)) = F := ⟨_, rfl⟩
      have HFL : Hid ((F.getD []).length ≤ 512) := by rw [← hF]; exact view_len HOK.out _
      rw [hF]
      have HFF := Lib.hid hF
      have hfl : (F.getD []).length ≤ 512 := HFL.out
      clear hF
      go_wp2_with fail
      refine (refRGet_any (F.getD []) wr (by omega)).mono ?_
      rintro e w2 ⟨rfl, hb2⟩
      have HB2 := Lib.hid hb2
      clear hb2
      obtain ⟨q, t, n, ok, hrg, hup⟩ : ∃ (q : Nat) (t : List UInt8) (n : Nat) (ok : Bool), rgetV (recGet (F.getD [])) = .tuple #[recV (q, t), .int .i64 (n : Int), .bool ok] ∧
          mtUp D.view a (i + 1) = (if F.isSome = true ∧ ok = true ∧ n = (F.getD []).length ∧ num < q then (q, (i : Int), t) else (num, last, body)) := by
        rw [HUP.out, mtStep_rec, HFF.out]
        cases F with
        | none => exact ⟨0, [], 0, false, rfl, by simp⟩
        | some s =>
          simp only [Option.getD_some, Option.isSome_some]
          cases hg : recGet s with
          | none => exact ⟨0, [], 0, false, rfl, by simp⟩
          | some y =>
            obtain ⟨⟨q, t⟩, n⟩ := y
            exact ⟨q, t, n, true, rfl, by simp⟩
      rw [hrg]
      unfold recV
      have HS3 := Lib.hid ((HST.out.to HB2.out).to ((Below.refl w2.heap.size w2).alloc (Nat.le_refl _) (.cells #[.int .u64 (q : Int), .string (st t)] 72)))
      have B8 := Blk.new w2 72 #[.int .u64 (q : Int), .string (st t)]
      have e0 : (w2.alloc (.cells #[.int .u64 (q : Int), .string (st t)] 72)).cell? ⟨w2.heap.size, 0, none⟩ = some (.int .u64 (q : Int)) := B8.cell 0
      have e1 : (w2.alloc (.cells #[.int .u64 (q : Int), .string (st t)] 72)).cell? ⟨w2.heap.size, 1, none⟩ = some (.string (st t)) := B8.cell 1
      have ef0 : (w2.alloc (.cells #[.int .u64 (q : Int), .string (st t)] 72)).frozen? ⟨w2.heap.size, 0, none⟩ = false := B8.free 0
      have ef1 : (w2.alloc (.cells #[.int .u64 (q : Int), .string (st t)] 72)).frozen? ⟨w2.heap.size, 1, none⟩ = false := B8.free 1
      have mb := HS3.out.m
      have m2 : (w2.alloc (.cells #[.int .u64 (q : Int), .string (st t)] 72)).cell? ⟨w.heap.size + 1 + 1, 2, none⟩ = some (.int .u64 (num : Int)) := mb.cell 2
      have m1 : (w2.alloc (.cells #[.int .u64 (q : Int), .string (st t)] 72)).cell? ⟨w.heap.size + 1 + 1, 1, none⟩ = some (.int .i64 (rLast (num, last, body))) := mb.cell 1
      have mf2 := mb.free 2
      have mf1 := mb.free 1
      have HUQ := Lib.hid hup
      have hlt : w.heap.size + 1 + 1 < w2.heap.size := (HST.out.to HB2.out).size
      have n8 : ¬ w.heap.size + 1 + 1 = w2.heap.size := by omega
      have n8' : ¬ w2.heap.size = w.heap.size + 1 + 1 := by omega
      clear B8 mb hrg hup
      obtain ⟨U, hU⟩ : ∃ U, F.isSome = U := ⟨_, rfl⟩
      obtain ⟨L, hL⟩ : ∃ L, F.getD [] = L := ⟨_, rfl⟩
      rw [hU, hL] at HUQ
      rw [hL] at hfl
      rw [hU, hL]
      clear hU hL HFL HFF
      cases U with
      | false =>
        have HU : Hid (mtUp D.view a (i + 1) = (num, last, body)) := by rw [Hid, HUQ.out, if_neg (fun h => by cases h.1)]
        go_wp2_with fail
        go_roundw
        case rel => exact ⟨i + 1, by go_num, by omega, by rw [HU.out], by rw [HU.out]; exact HS3.out⟩
        case measure => simp [intOf]; omega
      | true =>
        cases ok with
        | false =>
          have HU : Hid (mtUp D.view a (i + 1) = (num, last, body)) := by rw [Hid, HUQ.out, if_neg (fun h => by cases h.2.1)]
          go_wp2_with fail
          go_roundw
          case rel => exact ⟨i + 1, by go_num, by omega, by rw [HU.out], by rw [HU.out]; exact HS3.out⟩
          case measure => simp [intOf]; omega
        | true =>
          by_cases hn : n = L.length
          · subst hn
            by_cases hq : num < q
            · have HU : Hid (mtUp D.view a (i + 1) = (q, (i : Int), t)) := by rw [Hid, HUQ.out, if_pos ⟨rfl, rfl, rfl, hq⟩]
              have hqd : decide (num < q) = true := by simpa using hq
              have hq0 : Hid (q ≠ 0) := by rw [Hid]; omega
              clear hq
              go_wp2_with fail
              generalize hW : w2.alloc _ = W at *
              go_region
              go_wp2_with fail
              go_roundw
              case rel => exact ⟨i + 1, by go_num, by omega, by rw [HU.out], by rw [HU.out]; exact rm_put HS3.out hq0.out⟩
              case measure => simp [intOf]; omega
            · have HU : Hid (mtUp D.view a (i + 1) = (num, last, body)) := by rw [Hid, HUQ.out, if_neg (fun h => hq h.2.2.2)]
              have hqd : decide (num < q) = false := by simpa using hq
              clear hq
              go_wp2_with fail
              go_roundw
              case rel => exact ⟨i + 1, by go_num, by omega, by rw [HU.out], by rw [HU.out]; exact HS3.out⟩
              case measure => simp [intOf]; omega
          · have HU : Hid (mtUp D.view a (i + 1) = (num, last, body)) := by rw [Hid, HUQ.out, if_neg (fun h => hn h.2.2.1)]
            have hnb : ((n : Int) == (L.length : Int)) = false := by simp; omega
            clear hn
            go_wp2_with fail
            go_roundw
            case rel => exact ⟨i + 1, by go_num, by omega, by rw [HU.out], by rw [HU.out]; exact HS3.out⟩
            case measure => simp [intOf]; omega
    · obtain rfl : i = 2 := by omega
      have HE := mtUp_empty D.view a 2
      have HLA := mtUp_last D.view a 2
      obtain ⟨x, hx⟩ : ∃ x, mtUp D.view a 2 = x := ⟨_, rfl⟩
      have HX : Hid (mtOpen D.view a = x) := hx
      rw [hx] at HE HLA HST ⊢
      obtain ⟨num, last, body⟩ := x
      simp only at HE HLA
      have HEE := Lib.hid HE
      clear HE hx
      by_cases hn0 : num = 0
      · subst hn0
        have e0 : rLast (0, last, body) = -1 := rfl
        have m0 : (wr).cell? ⟨w.heap.size + 1 + 1, 0, none⟩ = some (.int .i64 a) := HST.out.m.cell 0
        have m1 : (wr).cell? ⟨w.heap.size + 1 + 1, 1, none⟩ = some (.int .i64 (-1)) := HST.out.m.cell 1
        have m2 : (wr).cell? ⟨w.heap.size + 1 + 1, 2, none⟩ = some (.int .u64 ((0 : Nat) : Int)) := HST.out.m.cell 2
        have mf0 : (wr).frozen? ⟨w.heap.size + 1 + 1, 0, none⟩ = false := HST.out.m.free 0
        have mf1 : (wr).frozen? ⟨w.heap.size + 1 + 1, 1, none⟩ = false := HST.out.m.free 1
        have mf2 : (wr).frozen? ⟨w.heap.size + 1 + 1, 2, none⟩ = false := HST.out.m.free 2
        have r0 : (wr).cell? ⟨w.heap.size + 1, 0, none⟩ = some (.int .i64 0) := HST.out.r.cell 0
        have r1 : (wr).cell? ⟨w.heap.size + 1, 1, none⟩ = some (.int .i64 0) := HST.out.r.cell 1
        have r2 : (wr).cell? ⟨w.heap.size + 1, 2, none⟩ = some (.int .u64 0) := HST.out.r.cell 2
        have rf0 : (wr).frozen? ⟨w.heap.size + 1, 0, none⟩ = false := HST.out.r.free 0
        have rf1 : (wr).frozen? ⟨w.heap.size + 1, 1, none⟩ = false := HST.out.r.free 1
        have rf2 : (wr).frozen? ⟨w.heap.size + 1, 2, none⟩ = false := HST.out.r.free 2
        go_wp2_with fail
        refine bodyPost_ret (results_cell3 rfl _ _ (w.heap.size + 1) rfl (HST.out.r.puts3 _ _ _) rmetaTy) rfl ?_
        exact ro_fin HX.out rfl (HEE.out (by trivial)) rfl (below_puts3 HST.out.below (by omega) _ _ _)
      · have e0 : rLast (num, last, body) = last := if_neg hn0
        have hm1 : wr.cell? ⟨w.heap.size + 1 + 1, 1, none⟩ = some (.int .i64 last) := by have := HST.out.m.cell 1; rw [e0] at this; exact this
        have E0 := Lib.hid e0
        clear e0
        have m0 : wr.cell? ⟨w.heap.size + 1 + 1, 0, none⟩ = some (.int .i64 a) := HST.out.m.cell 0
        have m2 : wr.cell? ⟨w.heap.size + 1 + 1, 2, none⟩ = some (.int .u64 (num : Int)) := HST.out.m.cell 2
        have hnl : ¬ last < 0 := by omega
        have r0 : (wr).cell? ⟨w.heap.size + 1, 0, none⟩ = some (.int .i64 0) := HST.out.r.cell 0
        have r1 : (wr).cell? ⟨w.heap.size + 1, 1, none⟩ = some (.int .i64 0) := HST.out.r.cell 1
        have r2 : (wr).cell? ⟨w.heap.size + 1, 2, none⟩ = some (.int .u64 0) := HST.out.r.cell 2
        have rf0 : (wr).frozen? ⟨w.heap.size + 1, 0, none⟩ = false := HST.out.r.free 0
        have rf1 : (wr).frozen? ⟨w.heap.size + 1, 1, none⟩ = false := HST.out.r.free 1
        have rf2 : (wr).frozen? ⟨w.heap.size + 1, 2, none⟩ = false := HST.out.r.free 2
        go_wp2_with fail
        refine bodyPost_ret (results_cell3 rfl _ _ (w.heap.size + 1) rfl (HST.out.r.puts3 _ _ _) rmetaTy) rfl ?_
        exact ro_fin HX.out E0.out rfl (by unfold mtErr; rw [if_neg hn0]; rfl) (below_puts3 HST.out.below (by omega) _ _ _)
end Go.Proofs.YtpmndmgfoiagnaaDoor

namespace Go.Proofs.YtpmndmgfoiagnaaDoor
open Go Go.RowKit
set_option linter.unusedVariables false
set_option linter.unusedSimpArgs false

section
variable {P : Program} {ops : Array Oper}

def stepsUpon (P : Program) (w : World) (S : World → World → Prop) (V : VP) : Result Next → Prop
  | .ok (.value u) w' => S w w' ∧ V u w'
  | .ok .skip w' => S w w' ∧ V undef w'
  | .ok (.enter f args) w' => Calls P f args w' (fun e w'' => ∃ v, e = .returned v ∧ S w w'' ∧ V v w'')
  | _ => False
/-- Run in w, the operation makes a step of S and yields a value of V. -/
def steps (P : Program) (o : Oper) (a : Act) (w : World) (S : World → World → Prop) (V : VP) : Prop := stepsUpon P w S V ((execOp a.eval o).run P w)

theorem wp_of_steps {o : Oper} {a : Act} {w : World} {S : World → World → Prop} {V : VP} {K : Act → World → Prop} {Q : Exit → Act → World → Prop} (h : steps P o a w S V)
    (hK : ∀ v w', S w w' → V v w' → K (a.put o.dst v) w') : o.wp P a w K Q := by
  unfold steps at h
  unfold Oper.wp
  generalize (execOp a.eval o).run P w = r at *
  cases r with
  | ok n w' =>
    cases n <;> simp only [stepsUpon] at h <;> simp only [Oper.upon]
    case value u => exact hK _ _ h.1 h.2
    case skip => exact hK _ _ h.1 h.2
    case enter f args => exact h.mono fun e w'' ⟨v, he, hb, hv⟩ => by subst he; exact hK _ _ hb hv
  | halt x w' => simp only [stepsUpon] at h

theorem exists_of_steps {o : Oper} {a : Act} {w : World} {S : World → World → Prop} {V : VP} (h : steps P o a w S V) : ∃ v w', S w w' ∧ V v w' := by
  unfold steps at h
  generalize (execOp a.eval o).run P w = r at *
  cases r with
  | ok n w' =>
    cases n <;> simp only [stepsUpon] at h
    case value u => exact ⟨u, w', h⟩
    case skip => exact ⟨_, w', h⟩
    case enter f args =>
      obtain ⟨e, w'', fr, ⟨v, _, hb, hv⟩, _⟩ := h []
      exact ⟨v, w'', hb, hv⟩
  | halt x w' => simp only [stepsUpon] at h

/-- S: what each operation may do to the world; C: in what worlds it may come up; E: what holds all the while. -/
structure RegFr where
  S : Nat → World → World → Prop
  C : Nat → World → Prop
  E : World → Prop

/-- The walk in the order of the text. 'env': what the operations ahead have yielded. -/
def wpReg (P : Program) (ops : Array Oper) (R : RegFr) (Q : Act → World → Prop) : List Oper → List VP → List (Value × VP) → Act → Prop
  | o :: rest, V :: Vs, env, a =>
    (if Region.wanted o (yielded ops a.tmps) then ∀ w, R.C env.length w → (∀ e ∈ o.after, Region.binds .any e = true → ∀ (x : Value) (W : VP), env[e.on]? = some (x, W) → W x w) → steps P o a w (R.S env.length) V else ∀ w, R.C env.length w → V undef w) ∧
    ∀ x, (∃ w, R.E w ∧ V x w) → wpReg P ops R Q rest Vs (env ++ [(x, V)]) (a.put o.dst x)
  | [], [], env, a => ∀ w, R.E w → (∀ (j : Nat) (x : Value) (W : VP), env[j]? = some (x, W) → W x w) → Q a w
  | _, _, _, _ => False

structure RegFr.Ok (R : RegFr) (ops : Array Oper) (Vs : List VP) : Prop where
  V : ∀ i j, i < ops.size → j < ops.size → i ≠ j → waits ops j i = false → ∀ x w w', R.S i w w' → vAt Vs j x w → vAt Vs j x w'
  C : ∀ i j, i < ops.size → j < ops.size → i ≠ j → waits ops i j = false → ∀ w w', R.S i w w' → R.C j w → R.C j w'
  E : ∀ i, i < ops.size → ∀ w w', R.S i w w' → R.E w → R.E w'

theorem envAt_len (Vs : List VP) (y : Nat → Value) (k : Nat) : (envAt Vs y k).length = k := by simp [envAt]

variable {R : RegFr} {Q : Act → World → Prop} {Vs : List VP} {a0 : Act}

theorem wpReg_at (hlen : Vs.length = ops.size) (h0 : wpReg P ops R Q ops.toList Vs [] a0) (y : Nat → Value) : ∀ k, k ≤ ops.size → (∀ j, j < k → ∃ w, R.E w ∧ vAt Vs j (y j) w) →
    wpReg P ops R Q (ops.toList.drop k) (Vs.drop k) (envAt Vs y k) (lexA ops a0 y k)
  | 0, _, _ => by simpa [envAt, lexA] using h0
  | k + 1, hk, hy => by
    have ih := wpReg_at hlen h0 y k (by omega) fun j hj => hy j (by omega)
    have hk1 : k < ops.toList.length := by rw [Array.length_toList]; omega
    have hk2 : k < Vs.length := by omega
    rw [List.drop_eq_getElem_cons (l := ops.toList) hk1, List.drop_eq_getElem_cons (l := Vs) hk2] at ih
    have h2 := ih.2 (y k) (by
      obtain ⟨w, hw, hv⟩ := hy k (by omega)
      refine ⟨w, hw, ?_⟩
      have e : vAt Vs k = Vs[k]'(by omega) := by simp [vAt, List.getD, List.getElem?_eq_getElem (show k < Vs.length by omega)]
      rw [e] at hv
      exact hv)
    have e1 : envAt Vs y (k + 1) = envAt Vs y k ++ [(y k, Vs[k]'(by omega))] := by
      simp [envAt, List.range_succ, vAt, List.getD, List.getElem?_eq_getElem (show k < Vs.length by omega)]
    have e2 : lexA ops a0 y (k + 1) = (lexA ops a0 y k).put (ops.toList[k]'(by rw [Array.length_toList]; omega)).dst (y k) := by
      rw [lexA]
      congr 1
      simp [dstOf, Array.getElem?_eq_getElem (show k < ops.size by omega)]
    rw [e1, e2]
    exact h2

theorem waits_lt (hg : growB ops = true) {i j : Nat} (hi : i < ops.size) (h : waits ops i j = true) : j < i := by
  obtain ⟨e, he, rfl, hb⟩ := (waits_iff (Array.getElem?_eq_getElem hi)).1 h
  exact (growB_spec hg).1 i _ (Array.getElem?_eq_getElem hi) e he hb

/-- What has not come up yet could come up in the order of the text. -/
theorem reg_prefix (hg : growB ops = true) (hR : R.Ok ops Vs) (hlen : Vs.length = ops.size)
    (h0 : wpReg P ops R Q ops.toList Vs [] a0) {w : World} (hE : R.E w) {L : Nat → Bool} {x : Nat → Value} (hx : ∀ j, j < ops.size → L j = true → vAt Vs j (x j) w) (hcl : ∀ (i : Nat) (o : Oper), ops[i]? = some o → L i = true → ∀ e ∈ o.after, Region.binds .any e = true → L e.on = true) (hC : ∀ j, j < ops.size → L j = false → R.C j w) :
    ∀ k, k ≤ ops.size → ∃ (y : Nat → Value) (w' : World), R.E w' ∧ (∀ j, L j = true → y j = x j) ∧ (∀ j, j < ops.size → L j = true ∨ j < k → vAt Vs j (y j) w') ∧ ∀ j, j < ops.size → L j = false → k ≤ j → R.C j w'
  | 0, _ => ⟨x, w, hE, fun _ _ => rfl, fun j hj h => h.elim (hx j hj) (fun h => by omega), fun j hj hl _ => hC j hj hl⟩
  | k + 1, hk => by
    obtain ⟨y, w', hE', hyx, hy, hC'⟩ := reg_prefix hg hR hlen h0 hE hx hcl hC k (by omega)
    by_cases hL : L k = true
    · refine ⟨y, w', hE', hyx, fun j hj h => hy j hj ?_, fun j hj hl hkj => hC' j hj hl (by omega)⟩
      rcases h with h | h
      · exact .inl h
      · by_cases hjk : j = k
        · subst hjk; exact .inl hL
        · exact .inr (by omega)
    · have hL' : L k = false := by simpa using hL
      have hcw := hC' k (by omega) hL' (Nat.le_refl _)
      have hat := wpReg_at hlen h0 y k (by omega) fun j hj => ⟨w', hE', hy j (by omega) (.inr hj)⟩
      have hk1 : k < ops.toList.length := by rw [Array.length_toList]; omega
      have hk2 : k < Vs.length := by omega
      rw [List.drop_eq_getElem_cons (l := ops.toList) hk1, List.drop_eq_getElem_cons (l := Vs) hk2] at hat
      have e : vAt Vs k = Vs[k]'(by omega) := by simp [vAt, List.getD, List.getElem?_eq_getElem (show k < Vs.length by omega)]
      have hex : ∃ v w'', (w'' = w' ∨ R.S k w' w'') ∧ vAt Vs k v w'' := by
        have h1 := hat.1
        rw [envAt_len] at h1
        split at h1
        · obtain ⟨v, w'', hbb, hv⟩ := exists_of_steps (h1 w' hcw fun e he hbd x W hxW => by
            obtain ⟨hlt, rfl, rfl⟩ := envAt_get hxW
            exact hy _ (by omega) (.inr hlt))
          exact ⟨v, w'', .inr hbb, by rw [e]; exact hv⟩
        · exact ⟨undef, w', .inl rfl, by rw [e]; exact h1 w' hcw⟩
      obtain ⟨v, w'', hst, hv⟩ := hex
      refine ⟨fun j => if j = k then v else y j, w'', ?_, fun j hj => ?_, fun j hj h => ?_, fun j hj hl hkj => ?_⟩
      · rcases hst with rfl | hst
        · exact hE'
        · exact hR.E k (by omega) _ _ hst hE'
      · have hne : j ≠ k := by rintro rfl; exact hL hj
        simp only [hne, if_false]
        exact hyx j hj
      · by_cases hjk : j = k
        · subst hjk
          simpa using hv
        · simp only [hjk, if_false]
          have h4 := hy j hj (h.elim .inl fun h => .inr (by omega))
          rcases hst with rfl | hst
          · exact h4
          · refine hR.V k j (by omega) hj (fun e => hjk e.symm) ?_ _ _ _ hst h4
            cases hwt : waits ops j k with
            | false => rfl
            | true =>
              have hkj := waits_lt hg hj hwt
              rcases h with h | h
              · obtain ⟨e, he, he2, hbd⟩ := (waits_iff (Array.getElem?_eq_getElem hj)).1 hwt
                have := hcl j _ (Array.getElem?_eq_getElem hj) h e he hbd
                rw [he2, hL'] at this
                cases this
              · omega
      · have h4 := hC' j hj hl (by omega)
        rcases hst with rfl | hst
        · exact h4
        · refine hR.C k j (by omega) hj (by omega) ?_ _ _ hst h4
          cases hwt : waits ops k j with
          | false => rfl
          | true => exact absurd (waits_lt hg (by omega) hwt) (by omega)

theorem wpReg_any (hg : growB ops = true) (hR : R.Ok ops Vs) (hlen : Vs.length = ops.size)
    (h0 : wpReg P ops R Q ops.toList Vs [] a0) {Q' : Exit → Act → World → Prop} (hQ : ∀ a w, Q a w → Q' .normal a w) :
    ∀ (fuel : Nat) (listed : Array Bool) (a : Act) (w : World) (x : Nat → Value), listed.size = ops.size → R.E w → (∀ j, j < ops.size → listed.getD j false = false → R.C j w) → Laid ops a0 (fun j => if listed.getD j false then some (x j) else none) a →
      (∀ j, j < ops.size → listed.getD j false = true → vAt Vs j (x j) w) → (∀ (i : Nat) (o : Oper), ops[i]? = some o → listed.getD i false = true → ∀ e ∈ o.after, Region.binds .any e = true → listed.getD e.on false = true) →
      unl ops.size listed ≤ fuel → wpAny P .any ops Q' fuel listed a w := by
  obtain ⟨hs1, hs2, hs3, hs4⟩ := growB_spec hg
  have hlt : ∀ {i : Nat} {o : Oper}, ops[i]? = some o → i < ops.size := fun ho => (Array.getElem?_eq_some_iff.1 ho).1
  -- where nothing may come up any more, all has come up
  have hend : ∀ (listed : Array Bool) (a : Act) (w : World) (x : Nat → Value), listed.size = ops.size → R.E w → Laid ops a0 (fun j => if listed.getD j false then some (x j) else none) a →
      (∀ j, j < ops.size → listed.getD j false = true → vAt Vs j (x j) w) → Region.ready .any ops listed = [] → Q' .normal a w := by
    intro listed a w x hsz hw hL hx hr
    have hall : ∀ n, ∀ j, j < n → j < ops.size → listed.getD j false = true := by
      intro n
      induction n with
      | zero => intro j hj; omega
      | succ n ih =>
        intro j hj hjs
        rcases Nat.lt_or_ge j n with hjn | hjn
        · exact ih j hjn hjs
        · obtain rfl : j = n := by omega
          cases hlj : listed.getD j false with
          | true => rfl
          | false =>
            exfalso
            have : j ∈ Region.ready .any ops listed := mem_ready.2 ⟨by
              have hj' : j < listed.size := by omega
              simpa [Array.getD, hj'] using hlj, ops[j], Array.getElem?_eq_getElem hjs, fun e he hb => ih e.on (hs1 j _ (Array.getElem?_eq_getElem hjs) e he hb) (by have := hs1 j _ (Array.getElem?_eq_getElem hjs) e he hb; omega)⟩
            rw [hr] at this
            cases this
    have hat := wpReg_at hlen h0 x ops.size (Nat.le_refl _) fun j hj => ⟨w, hw, hx j hj (hall _ j hj hj)⟩
    rw [List.drop_of_length_le (by simp), List.drop_of_length_le (by omega)] at hat
    have hq := hat w hw fun j x' W hxW => by
      obtain ⟨hj, rfl, rfl⟩ := envAt_get hxW
      exact hx j hj (hall _ j hj hj)
    have he : a = lexA ops a0 x ops.size := Laid.same hL ((lexA_laid hg a0 x ops.size (Nat.le_refl _)).congr fun j hj => by simp only [hj, if_true, hall _ j hj hj])
    rw [he]
    exact hQ _ _ hq
  intro fuel
  induction fuel with
  | zero =>
    intro listed a w x hsz hw hC hL hx hcl hf
    have hr : Region.ready .any ops listed = [] := by
      rw [List.eq_nil_iff_forall_not_mem]
      intro i hi
      obtain ⟨h1, o, ho, _⟩ := mem_ready.1 hi
      have : i ∈ (List.range ops.size).filter fun j => !listed.getD j true := List.mem_filter.2 ⟨List.mem_range.2 (hlt ho), by rw [h1]; rfl⟩
      have hz : ((List.range ops.size).filter fun j => !listed.getD j true) = [] := List.eq_nil_of_length_eq_zero (by unfold unl at hf; omega)
      rw [hz] at this
      cases this
    exact ⟨hr, hend listed a w x hsz hw hL hx hr⟩
  | succ fuel ih =>
    intro listed a w x hsz hw hC hL hx hcl hf
    refine ⟨fun hr => hend listed a w x hsz hw hL hx hr, fun i hi => ?_⟩
    obtain ⟨hi1, o, ho, hdeps⟩ := mem_ready.1 hi
    have hin := hlt ho
    have hi2 := getD_of hi1
    have eV : vAt Vs i = Vs[i]'(by omega) := by simp [vAt, List.getD, List.getElem?_eq_getElem (show i < Vs.length by omega)]
    obtain ⟨y, w', hE', hyx, hy, _⟩ := reg_prefix hg hR hlen h0 hw (L := fun j => listed.getD j false) hx hcl hC i (by omega)
    have hat := wpReg_at hlen h0 y i (by omega) fun j hj => ⟨w', hE', hy j (by omega) (.inr hj)⟩
    have hk1 : i < ops.toList.length := by rw [Array.length_toList]; omega
    have hk2 : i < Vs.length := by omega
    rw [List.drop_eq_getElem_cons (l := ops.toList) hk1, List.drop_eq_getElem_cons (l := Vs) hk2] at hat
    have eo : ops.toList[i]'(by simpa using hin) = o := by
      have := Array.getElem?_eq_getElem hin
      rw [ho] at this
      simpa using (Option.some.inj this).symm
    rw [eo, ← eV] at hat
    have hlex := lexA_laid hg a0 y i (by omega)
    have hag : ∀ t ∈ o.looksAt ops, a.tmps[t]? = (lexA ops a0 y i).tmps[t]? := by
      intro t ht
      by_cases hj : ∃ j, j < ops.size ∧ dstOf ops j = some t
      · obtain ⟨j, hjn, hjd⟩ := hj
        have only : ∀ j', j' < ops.size → dstOf ops j' = some t → j' = j := fun j' h1 h2 => hs2 j' j t h1 hjn h2 hjd
        have hother : (listed.getD j false = false) → i ≤ j → a.tmps[t]? = (lexA ops a0 y i).tmps[t]? := fun h1 h2 => by
          rw [hL.off t fun j' hj' hd' => by rw [only j' hj' hd', h1]; rfl, hlex.off t fun j' hj' hd' => by
            rw [only j' hj' hd']
            have : ¬ j < i := by omega
            simp [this]]
        rcases hs3 i j o t ho hjn hjd ht with h | h | h
        · obtain ⟨e, he, rfl, hbd⟩ := (waits_iff ho).1 h
          have hl := hdeps e he hbd
          have hji := hs1 i o ho e he hbd
          rw [hL.put e.on t (x e.on) hjn hjd (by rw [hl]; rfl), hlex.put e.on t (y e.on) hjn hjd (by simp [hji]), hyx e.on hl]
        · obtain ⟨e, he, rfl, hbd⟩ := (waits_iff (Array.getElem?_eq_getElem hjn)).1 h
          have hlt2 := hs1 j _ (Array.getElem?_eq_getElem hjn) e he hbd
          refine hother ?_ (by omega)
          cases hlj : listed.getD j false with
          | false => rfl
          | true =>
            have := hcl j _ (Array.getElem?_eq_getElem hjn) hlj e he hbd
            rw [hi2] at this
            cases this
        · subst h
          exact hother hi2 (Nat.le_refl _)
      · rw [hL.off t fun j hjn hjd => absurd ⟨j, hjn, hjd⟩ hj, hlex.off t fun j hjn hjd => absurd ⟨j, hjn, hjd⟩ hj]
    obtain ⟨hex, hwant⟩ := exec_agree (ops := ops) (hs4 i o · · ho) hag
    have hnext : ∀ v w2, (w2 = w ∨ R.S i w w2) → vAt Vs i v w2 → wpAny P .any ops Q' fuel (listed.setIfInBounds i true) (a.put o.dst v) w2 := by
      intro v w2 hst hv
      have hset : ∀ j, (listed.setIfInBounds i true).getD j false = if j = i then true else listed.getD j false := fun j => by
        by_cases hji : j = i
        · subst hji
          have : j < listed.size := by omega
          simp [Array.getD, this]
        · rw [getD_set_ne false (fun e => hji e.symm)]
          simp [hji]
      refine ih _ _ _ (fun j => if j = i then v else x j) (by simpa using hsz) ?_ ?_ ?_ ?_ ?_ ?_
      · rcases hst with rfl | hst
        · exact hw
        · exact hR.E i hin _ _ hst hw
      · intro j hj hlj
        rw [hset] at hlj
        by_cases hji : j = i
        · simp [hji] at hlj
        · simp only [hji, if_false] at hlj
          have h4 := hC j hj hlj
          rcases hst with rfl | hst
          · exact h4
          · refine hR.C i j hin hj (fun e => hji e.symm) ?_ _ _ hst h4
            cases hwt : waits ops i j with
            | false => rfl
            | true =>
              obtain ⟨e, he, rfl, hbd⟩ := (waits_iff ho).1 hwt
              have := hdeps e he hbd
              rw [hlj] at this
              cases this
      · refine (hL.next hg ho (by rw [hi2]; rfl) v).congr fun j hj => ?_
        rw [hset]
        by_cases hji : j = i <;> simp [hji]
      · intro j hj hlj
        rw [hset] at hlj
        by_cases hji : j = i
        · subst hji; simpa using hv
        · simp only [hji, if_false] at hlj ⊢
          have h4 := hx j hj hlj
          rcases hst with rfl | hst
          · exact h4
          · refine hR.V i j hin hj (fun e => hji e.symm) ?_ _ _ _ hst h4
            cases hwt : waits ops j i with
            | false => rfl
            | true =>
              obtain ⟨e, he, he2, hbd⟩ := (waits_iff (Array.getElem?_eq_getElem hj)).1 hwt
              have := hcl j _ (Array.getElem?_eq_getElem hj) hlj e he hbd
              rw [he2, hi2] at this
              cases this
      · intro k ok hok hlk e he hbd
        rw [hset] at hlk ⊢
        by_cases hki : k = i
        · subst hki
          obtain rfl : ok = o := by rw [ho] at hok; exact (Option.some.inj hok).symm
          have := hdeps e he hbd
          by_cases h' : e.on = k <;> simp [h', this]
        · simp only [hki, if_false] at hlk
          have := hcl k ok hok hlk e he hbd
          by_cases h' : e.on = i <;> simp [h', this]
      · have : unl ops.size (listed.setIfInBounds i true) < unl ops.size listed := by
          refine len_filter_lt (List.range ops.size) (fun j _ hq => ?_) i (List.mem_range.2 hin) (by rw [hi1]; rfl) ?_
          · by_cases hji : j = i
            · subst hji; rw [hi1]; rfl
            · rwa [getD_set_ne true (fun e => hji e.symm)] at hq
          · have : i < listed.size := by omega
            simp [Array.getD, this]
        omega
    unfold wpOp
    simp only [ho]
    rw [hwant]
    have h1 := hat.1
    rw [envAt_len] at h1
    have hci := hC i hin hi2
    split
    · rename_i hwt
      rw [if_pos hwt] at h1
      refine .inl (wp_of_steps (S := R.S i) (V := vAt Vs i) ?_ fun v w2 hb2 hv => hnext v w2 (.inr hb2) hv)
      unfold steps
      rw [hex]
      exact h1 w hci fun e he hbd x' W hxW => by
        obtain ⟨hlt2, rfl, rfl⟩ := envAt_get hxW
        have hl := hdeps e he hbd
        rw [hyx _ hl]
        exact hx _ (by omega) hl
    · rename_i hwt
      rw [if_neg hwt] at h1
      exact hnext undef w (.inl rfl) (h1 w hci)

/-- **ONE WALK IN THE ORDER OF THE TEXT SERVES EVERY ORDER.** -/
theorem wp_region_reg {id : Nat} {Q' : Exit → Act → World → Prop} {w0 : World} (l : List Oper) (hm : P.follows .mixedOrders = true) (hg : growB l.toArray = true) (hR : R.Ok l.toArray Vs) (hlen : Vs.length = l.length)
    (hE : R.E w0.drew) (hC : ∀ j, j < l.toArray.size → R.C j w0.drew)
    (h0 : wpReg P l.toArray R (fun a w => Q' .normal a w) l Vs [] a0) : (Code.region id l.toArray true).wp P Q' a0 w0 := by
  have hno : ∀ j, (Array.replicate l.toArray.size false).getD j false = false := fun j => by unfold Array.getD; split <;> simp
  refine wp_region_any hm (wpReg_any (Q := fun a w => Q' .normal a w) hg hR (by simpa using hlen) (by simpa using h0) (fun a w h => h) _ _ _ _ (fun _ => undef) (by simp) hE (fun j hj _ => hC j hj) ?_ ?_ ?_ ?_)
  · refine (Laid.start a0).congr fun j hj => ?_
    rw [hno]
    rfl
  · intro j hj h
    rw [hno] at h
    cases h
  · intro i o ho h
    rw [hno] at h
    cases h
  · unfold unl
    exact Nat.le_trans (List.length_filter_le _ _) (by simp)

/-! ### The usual frame: some operations put cells of blocks that lie there; all others only make new memory -/
/-- Operation i puts the cells o to o + n of the block g, of type t. -/
structure Pt where
  i : Nat
  g : Nat
  t : TypeId
  o : Nat
  n : Nat
def Pt.hits (p : Pt) (b k : Nat) : Prop := p.g = b ∧ p.o ≤ k ∧ k < p.o + p.n
def Puts (p : Pt) (w w' : World) : Prop := ∃ cs cs', Blk w p.g p.t cs ∧ cs'.size = cs.size ∧ (∀ k, ¬ p.hits p.g k → cs'[k]? = cs[k]?) ∧ w' = w.setRow p.g cs'
theorem heap_setRow (w : World) (g : Nat) (cs : Array Value) (b : Nat) (hb : b ≠ g) : (w.setRow g cs).heap[b]? = w.heap[b]? := by
  unfold World.setRow
  simp only [Array.getElem?_modify]
  split
  · rename_i h; exact absurd h.symm hb
  · rfl
theorem size_setRow (w : World) (g : Nat) (cs : Array Value) : (w.setRow g cs).heap.size = w.heap.size := by simp [World.setRow]
theorem Blk.same {w : World} {g : Nat} {t t' : TypeId} {cs cs' : Array Value} (h : Blk w g t cs) (h' : Blk w g t' cs') : t = t' ∧ cs = cs' := by
  unfold Blk at h h'
  rw [h] at h'
  injection h' with h'
  injection h' with h1 h2
  exact ⟨h2, h1⟩

/-- But for the cells of X, and new blocks, all is as it was. -/
structure Kept (X : Nat → Nat → Prop) (w w' : World) : Prop where
  os : w'.os = w.os
  tape : w'.tape = w.tape
  output : w'.output = w.output
  size : w.heap.size ≤ w'.heap.size
  blk : ∀ b t cs, Blk w b t cs → ∃ cs', Blk w' b t cs' ∧ cs'.size = cs.size ∧ ∀ k, ¬ X b k → cs'[k]? = cs[k]?
  rest : ∀ b, b < w.heap.size → (∀ t cs, ¬ Blk w b t cs) → w'.heap[b]? = w.heap[b]?
theorem Kept.refl (X : Nat → Nat → Prop) (w : World) : Kept X w w := ⟨rfl, rfl, rfl, Nat.le_refl _, fun _ _ cs h => ⟨cs, h, rfl, fun _ _ => rfl⟩, fun _ _ _ => rfl⟩
theorem Kept.drew (X : Nat → Nat → Prop) (w : World) : Kept X w w.drew := ⟨rfl, rfl, rfl, Nat.le_refl _, fun _ _ cs h => ⟨cs, h, rfl, fun _ _ => rfl⟩, fun _ _ _ => rfl⟩
section
variable {X Y : Nat → Nat → Prop} {w w1 w2 : World}
theorem Kept.mono (h : Kept X w w1) (hX : ∀ b k, X b k → Y b k) : Kept Y w w1 := ⟨h.os, h.tape, h.output, h.size, fun b t cs hb => by
  obtain ⟨cs', h1, h2, h3⟩ := h.blk b t cs hb
  exact ⟨cs', h1, h2, fun k hk => h3 k fun e => hk (hX b k e)⟩, h.rest⟩
theorem Kept.later (h : Kept X w w1) (k : Below w1.heap.size w1 w2) : Kept X w w2 := ⟨k.os.trans h.os, k.tape.trans h.tape, k.output.trans h.output, Nat.le_trans h.size k.size, fun b t cs hb => by
  obtain ⟨cs', h1, h2, h3⟩ := h.blk b t cs hb
  exact ⟨cs', h1.later k, h2, h3⟩, fun b hb hn => (k.block b (Nat.lt_of_lt_of_le hb h.size)).trans (h.rest b hb hn)⟩
theorem Kept.puts (h : Kept X w w1) {p : Pt} (k : Puts p w1 w2) (hX : ∀ k, p.hits p.g k → X p.g k) : Kept X w w2 := by
  obtain ⟨cs, cs', h1, h2, h3, rfl⟩ := k
  refine ⟨h.os, h.tape, h.output, by rw [size_setRow]; exact h.size, fun b t ds hb => ?_, fun b hb hn => ?_⟩
  · obtain ⟨ds', g1, g2, g3⟩ := h.blk b t ds hb
    by_cases hbg : b = p.g
    · subst hbg
      obtain ⟨rfl, rfl⟩ := g1.same h1
      exact ⟨cs', g1.setRow cs', h2.trans g2, fun k hk => (h3 k fun e => hk (hX k e)).trans (g3 k hk)⟩
    · exact ⟨ds', (heap_setRow w1 p.g cs' b hbg).trans g1, g2, g3⟩
  · by_cases hbg : b = p.g
    · subst hbg
      have := h.rest _ hb hn
      refine absurd ?_ (hn p.t cs)
      unfold Blk at h1 ⊢
      rw [← this]
      exact h1
    · exact (heap_setRow w1 p.g cs' b hbg).trans (h.rest b hb hn)
theorem Kept.at (h : Kept X w w1) {g : Nat} {t : TypeId} {cs : Array Value} (hb : Blk w g t cs) (hX : ∀ k, ¬ X g k) : Blk w1 g t cs := by
  obtain ⟨cs', h1, h2, h3⟩ := h.blk g t cs hb
  obtain rfl : cs' = cs := Array.ext_getElem? fun k => h3 k (hX k)
  exact h1
theorem Kept.heap (h : Kept X w w1) {b : Nat} (hb : b < w.heap.size) (hX : ∀ k, ¬ X b k) : w1.heap[b]? = w.heap[b]? := by
  by_cases hn : ∃ t cs, Blk w b t cs
  · obtain ⟨t, cs, hbk⟩ := hn
    have := h.at hbk hX
    unfold Blk at this hbk
    rw [this, hbk]
  · exact h.rest b hb fun t cs e => hn ⟨t, cs, e⟩
theorem Kept.below (h : Kept X w w1) {B : Nat} (hB : B ≤ w.heap.size) (hX : ∀ b k, X b k → B ≤ b) : Below B w w1 :=
  ⟨h.os, h.tape, h.output, h.size, fun b hb => h.heap (Nat.lt_of_lt_of_le hb hB) fun k e => by have := hX b k e; omega⟩
theorem Kept.cell (h : Kept X w w1) {b k : Nat} {v : Value} (hc : w.cell? ⟨b, k, none⟩ = some v) (hX : ¬ X b k) : w1.cell? ⟨b, k, none⟩ = some v := by
  by_cases hn : ∃ t cs, Blk w b t cs
  · obtain ⟨t, cs, hbk⟩ := hn
    obtain ⟨cs', h1, _, h3⟩ := h.blk b t cs hbk
    rw [hbk.cell] at hc
    rw [h1.cell, h3 k hX]
    exact hc
  · have hlt : b < w.heap.size := by
      rcases Nat.lt_or_ge b w.heap.size with h1 | h1
      · exact h1
      · simp [World.cell?, Array.getElem?_eq_none h1] at hc
    have := h.rest b hlt fun t cs e => hn ⟨t, cs, e⟩
    rw [World.cell?_of_block (a := ⟨b, k, none⟩) this]
    exact hc
end

def ptS (st : List Pt) (i : Nat) : World → World → Prop := fun w w' => match st.find? (fun p => p.i == i) with
  | some p => Puts p w w'
  | none => Below w.heap.size w w'
/-- Which cells may have turned when operation j comes up. -/
def ptX (ops : Array Oper) (st : List Pt) (j : Nat) : Nat → Nat → Prop := fun b k => ∃ p ∈ st, p.i ≠ j ∧ waits ops p.i j = false ∧ p.hits b k
def ptE (st : List Pt) : Nat → Nat → Prop := fun b k => ∃ p ∈ st, p.hits b k
def ptR (ops : Array Oper) (st : List Pt) (w0 : World) : RegFr := ⟨ptS st, fun j => Kept (ptX ops st j) w0, Kept (ptE st) w0⟩
theorem ptX_E {ops : Array Oper} {st : List Pt} {j : Nat} (b k : Nat) (h : ptX ops st j b k) : ptE st b k := by
  obtain ⟨p, h1, _, _, h2⟩ := h
  exact ⟨p, h1, h2⟩
def PStays (p : Pt) (V : VP) : Prop := ∀ v w w', Puts p w w' → V v w → V v w'
def AllOk (ops : Array Oper) (st : List Pt) : Nat → List VP → Prop
  | _, [] => True
  | j, V :: Vs => (Stays V ∧ ∀ p ∈ st, p.i ≠ j → waits ops j p.i = false → PStays p V) ∧ AllOk ops st (j + 1) Vs
theorem allOk {st : List Pt} : ∀ {Vs : List VP} {n : Nat}, AllOk ops st n Vs → ∀ j, j < Vs.length → Stays (vAt Vs j) ∧ ∀ p ∈ st, p.i ≠ n + j → waits ops (n + j) p.i = false → PStays p (vAt Vs j)
  | V :: Vs, n, h, 0, _ => h.1
  | V :: Vs, n, h, j + 1, hj => by
    have := allOk h.2 j (by simp only [List.length_cons] at hj; omega)
    rw [show n + 1 + j = n + (j + 1) from by omega] at this
    exact this
theorem pt_find {st : List Pt} {i : Nat} {p : Pt} (h : st.find? (fun p => p.i == i) = some p) : p ∈ st ∧ p.i = i := by
  have h1 := List.find?_some h
  exact ⟨List.mem_of_find?_eq_some h, by simpa using h1⟩
theorem ptR_ok {st : List Pt} {w0 : World} (hlen : Vs.length = ops.size) (h : AllOk ops st 0 Vs) : (ptR ops st w0).Ok ops Vs := by
  refine ⟨fun i j hi hj hne hwt x w w' hS hv => ?_, fun i j hi hj hne hwt w w' hS hC => ?_, fun i hi w w' hS hE => ?_⟩
  · have h1 := allOk h j (by omega)
    rw [Nat.zero_add] at h1
    simp only [ptR, ptS] at hS
    split at hS
    · rename_i p hp
      obtain ⟨hm, rfl⟩ := pt_find hp
      exact h1.2 p hm hne hwt x w w' hS hv
    · exact h1.1 x w w' hS hv
  · simp only [ptR, ptS] at hS hC ⊢
    split at hS
    · rename_i p hp
      obtain ⟨hm, rfl⟩ := pt_find hp
      exact hC.puts hS fun k hk => ⟨p, hm, hne, hwt, hk⟩
    · exact hC.later hS
  · simp only [ptR, ptS] at hS hE ⊢
    split at hS
    · rename_i p hp
      obtain ⟨hm, rfl⟩ := pt_find hp
      exact hE.puts hS fun k hk => ⟨p, hm, hk⟩
    · exact hE.later hS

theorem wp_region_put {id : Nat} {Q' : Exit → Act → World → Prop} {w0 : World} {l : List Oper} {a0 : Act} (st : List Pt) (hm : P.follows .mixedOrders = true) (hg : growB l.toArray = true)
    (h : ∃ Vs, wpReg P l.toArray (ptR l.toArray st w0) (fun a w => Q' .normal a w) l Vs [] a0 ∧ AllOk l.toArray st 0 Vs ∧ Vs.length = l.length) : (Code.region id l.toArray true).wp P Q' a0 w0 := by
  obtain ⟨Vs, h0, hS, hlen⟩ := h
  exact wp_region_reg l hm hg (ptR_ok (by simpa using hlen) hS) hlen (Kept.drew _ _) (fun _ _ => Kept.drew _ _) h0

/-! ### The walk, step by step -/
section
variable {Q : Act → World → Prop} {a : Act} {o : Oper} {rest : List Oper} {Vs : List VP} {env : List (Value × VP)} {st : List Pt} {w0 : World}
theorem wpReg_is {c : Value} (hw : Region.wanted o (yielded ops a.tmps) = true) (hs : st.find? (fun p => p.i == env.length) = none)
    (h1 : ∀ w, Kept (ptX ops st env.length) w0 w → (∀ e ∈ o.after, Region.binds .any e = true → ∀ (x : Value) (W : VP), env[e.on]? = some (x, W) → W x w) → grows P o a w (Is c))
    (h2 : ∀ K : Act → Prop, (∀ a', wpReg P ops (ptR ops st w0) Q rest Vs (env ++ [(c, Is c)]) a' → K a') → K (a.put o.dst c)) : wpReg P ops (ptR ops st w0) Q (o :: rest) (Is c :: Vs) env a := by
  refine ⟨?_, fun x ⟨w, _, hx⟩ => ?_⟩
  · rw [if_pos hw]
    intro w hC hf
    have h3 := h1 w hC hf
    have eS : (ptR ops st w0).S env.length = fun w w' => Below w.heap.size w w' := by funext w w'; simp only [ptR, ptS, hs]
    rw [eS]
    unfold grows at h3
    unfold steps
    revert h3
    cases (execOp a.eval o).run P w with
    | ok n w' =>
      cases n <;> simp only [growsUpon, stepsUpon] <;> first | exact fun h => h | exact fun h => h.2.mono fun e w'' ⟨v, he, hb, hv⟩ => ⟨v, he, grow_trans h.1 hb, hv⟩
    | halt x w' => simp only [growsUpon, stepsUpon]; exact fun h => h
  · obtain rfl : x = c := hx
    exact h2 _ fun _ h => h
theorem wpReg_rel {V : VP} (hw : Region.wanted o (yielded ops a.tmps) = true) (hs : st.find? (fun p => p.i == env.length) = none)
    (h1 : ∀ w, Kept (ptX ops st env.length) w0 w → (∀ e ∈ o.after, Region.binds .any e = true → ∀ (x : Value) (W : VP), env[e.on]? = some (x, W) → W x w) → grows P o a w V)
    (h2 : ∀ x, (∃ w, Kept (ptE st) w0 w ∧ V x w) → ∀ K : Act → Prop, (∀ a', wpReg P ops (ptR ops st w0) Q rest Vs (env ++ [(x, V)]) a' → K a') → K (a.put o.dst x)) : wpReg P ops (ptR ops st w0) Q (o :: rest) (V :: Vs) env a := by
  refine ⟨?_, fun x hx => h2 x hx _ fun _ h => h⟩
  rw [if_pos hw]
  intro w hC hf
  have h3 := h1 w hC hf
  have eS : (ptR ops st w0).S env.length = fun w w' => Below w.heap.size w w' := by funext w w'; simp only [ptR, ptS, hs]
  rw [eS]
  unfold grows at h3
  unfold steps
  revert h3
  cases (execOp a.eval o).run P w with
  | ok n w' =>
    cases n <;> simp only [growsUpon, stepsUpon] <;> first | exact fun h => h | exact fun h => h.2.mono fun e w'' ⟨v, he, hb, hv⟩ => ⟨v, he, grow_trans h.1 hb, hv⟩
  | halt x w' => simp only [growsUpon, stepsUpon]; exact fun h => h
theorem wpReg_skip (hw : Region.wanted o (yielded ops a.tmps) = false) (h2 : ∀ K : Act → Prop, (∀ a', wpReg P ops (ptR ops st w0) Q rest Vs (env ++ [(undef, Is undef)]) a' → K a') → K (a.put o.dst undef)) : wpReg P ops (ptR ops st w0) Q (o :: rest) (Is undef :: Vs) env a := by
  refine ⟨by rw [if_neg (by rw [hw]; simp)]; exact fun _ _ => rfl, fun x ⟨w, _, hx⟩ => ?_⟩
  obtain rfl : x = undef := hx
  exact h2 _ fun _ h => h
theorem wpReg_end (h : ∀ w, Kept (ptE st) w0 w → (∀ (j : Nat) (x : Value) (W : VP), env[j]? = some (x, W) → W x w) → Q a w) : wpReg P ops (ptR ops st w0) Q [] [] env a := h
/-- The block g holds what is R. -/
def HasV (g : Nat) (t : TypeId) (R : VP) : VP := fun v w => v = undef ∧ ∃ cs, Blk w g t cs ∧ R (.agg cs) w
theorem HasV.stays {g : Nat} {t : TypeId} {R : VP} (h : Stays R) : Stays (HasV g t R) := fun v w w' hb ⟨h1, cs, h2, h3⟩ => ⟨h1, cs, h2.later hb, h _ _ _ hb h3⟩
theorem HasV.pstays {g : Nat} {t : TypeId} {R : VP} {p : Pt} (hne : g ≠ p.g) (h : PStays p R) : PStays p (HasV g t R) := fun v w w' hp ⟨h1, cs, h2, h3⟩ => by
  refine ⟨h1, cs, ?_, h _ _ _ hp h3⟩
  obtain ⟨ds, ds', _, _, _, rfl⟩ := hp
  exact (heap_setRow w p.g ds' g hne).trans h2
theorem ptE1_not {i g n : Nat} {t : TypeId} {b : Nat} (h : b ≠ g) (k : Nat) : ¬ ptE [⟨i, g, t, 0, n⟩] b k := by
  rintro ⟨p, hp, e, _⟩
  simp only [List.mem_cons, List.not_mem_nil, or_false] at hp
  subst hp
  exact h e.symm
theorem ptE2_not {i g n i' g' n' : Nat} {t t' : TypeId} {b : Nat} (h : b ≠ g) (h' : b ≠ g') (k : Nat) : ¬ ptE [⟨i, g, t, 0, n⟩, ⟨i', g', t', 0, n'⟩] b k := by
  rintro ⟨p, hp, e, _⟩
  simp only [List.mem_cons, List.not_mem_nil, or_false] at hp
  rcases hp with rfl | rfl
  · exact h e.symm
  · exact h' e.symm
theorem ok_hasIs1 {ops : Array Oper} {i g n : Nat} {t u : TypeId} {j b : Nat} {c : Value} (h : j = i ∨ b ≠ g) : Stays (HasV b u (Is c)) ∧ ∀ p ∈ [(⟨i, g, t, 0, n⟩ : Pt)], p.i ≠ j → waits ops j p.i = false → PStays p (HasV b u (Is c)) :=
  ⟨HasV.stays (Stays.is c), fun p hp hj _ => HasV.pstays (by
    simp only [List.mem_cons, List.not_mem_nil, or_false] at hp
    subst hp
    rcases h with h | h
    · exact absurd h.symm hj
    · exact h) (fun _ _ _ _ h => h)⟩
theorem ok_hasIs2 {ops : Array Oper} {i g n i' g' n' : Nat} {t t' u : TypeId} {j b : Nat} {c : Value} (h : j = i ∨ b ≠ g) (h' : j = i' ∨ b ≠ g') : Stays (HasV b u (Is c)) ∧ ∀ p ∈ [(⟨i, g, t, 0, n⟩ : Pt), ⟨i', g', t', 0, n'⟩], p.i ≠ j → waits ops j p.i = false → PStays p (HasV b u (Is c)) :=
  ⟨HasV.stays (Stays.is c), fun p hp hj _ => HasV.pstays (by
    simp only [List.mem_cons, List.not_mem_nil, or_false] at hp
    rcases hp with rfl | rfl
    · rcases h with h | h
      · exact absurd h.symm hj
      · exact h
    · rcases h' with h | h
      · exact absurd h.symm hj
      · exact h) (fun _ _ _ _ h => h)⟩
theorem Is.pstays (c : Value) (p : Pt) : PStays p (Is c) := fun _ _ _ _ h => h
/-- A whole variable is stored. -/
theorem wpReg_store (R : VP) (cs : Array Value) {t : TypeId} (hw : Region.wanted o (yielded ops a.tmps) = true) (ty : TypeId) (x y : Operand) (ho : o.op = .store ty x y) (g : Nat) (hx : a.eval x = .pointer (some ⟨g, 0, none⟩)) (hy : a.eval y = .agg cs)
    (hi : (P.info? ty).map (·.size) = some cs.size) (h1 : cs.all (·.oneCell') = true) {old : Array Value} (hb : Blk w0 g t old) (hold : old.size = cs.size)
    (hs : st.find? (fun p => p.i == env.length) = some ⟨env.length, g, t, 0, cs.size⟩)
    (hv : ∀ w, Kept (ptE st) w0 w → (∀ e ∈ o.after, Region.binds .any e = true → ∀ (x : Value) (W : VP), env[e.on]? = some (x, W) → W x w) → R (.agg cs) w) (hps : ∀ p : Pt, p.t = t → PStays p R)
    (h2 : ∀ K : Act → Prop, (∀ a', wpReg P ops (ptR ops st w0) Q rest Vs (env ++ [(undef, HasV g t R)]) a' → K a') → K (a.put o.dst undef)) : wpReg P ops (ptR ops st w0) Q (o :: rest) (HasV g t R :: Vs) env a := by
  refine ⟨?_, fun x ⟨w, _, hx⟩ => ?_⟩
  · rw [if_pos hw]
    intro w hC hf
    obtain ⟨ds, h3, h4, _⟩ := hC.blk g t old hb
    have eS : (ptR ops st w0).S env.length = Puts ⟨env.length, g, t, 0, cs.size⟩ := by funext w w'; simp only [ptR, ptS, hs]
    rw [eS]
    have hrun : (execOp a.eval o).run P w = .ok .skip (w.setRow g cs) := by
      unfold execOp
      simp only [ho, hx, hy, Instr.storeAt, Instr.sureAddr, Sem.run_bind, Sem.run_pure, Result.andThen_ok, run_storeVar_row w g t ty ds cs h3 hi (h4.trans hold) h1]
    have hpt : Puts ⟨env.length, g, t, 0, cs.size⟩ w (w.setRow g cs) := ⟨ds, cs, h3, (h4.trans hold).symm, fun k hk => by
      have : cs.size ≤ k := by
        rcases Nat.lt_or_ge k cs.size with h5 | h5
        · exact absurd ⟨rfl, Nat.zero_le _, by simpa using h5⟩ hk
        · exact h5
      rw [Array.getElem?_eq_none this, Array.getElem?_eq_none (by omega)], rfl⟩
    unfold steps
    rw [hrun]
    exact ⟨hpt, rfl, cs, h3.setRow cs, hps _ rfl _ _ _ hpt (hv w (Kept.mono hC ptX_E) hf)⟩
  · obtain ⟨rfl, _⟩ := hx
    exact h2 _ fun _ h => h
/-- One cell is stored. -/
def HasC (g k : Nat) (u : Value) : VP := fun v w => v = undef ∧ w.cell? ⟨g, k, none⟩ = some u
theorem HasC.stays (g k : Nat) (u : Value) : Stays (HasC g k u) := fun v w w' hb h => ⟨h.1, cell_later hb h.2⟩
theorem HasC.pstays {g k : Nat} {u : Value} {p : Pt} (hne : ¬ p.hits g k) : PStays p (HasC g k u) := fun v w w' h q => by
  obtain ⟨ds, ds', h1, h2, h3, rfl⟩ := h
  refine ⟨q.1, ?_⟩
  by_cases hg : g = p.g
  · subst hg
    have := q.2
    rw [h1.cell] at this
    rw [(h1.setRow ds').cell, h3 k hne]
    exact this
  · rw [World.cell?_of_block (a := ⟨g, k, none⟩) (heap_setRow w p.g ds' g hg)]
    exact q.2
theorem okIs (ops : Array Oper) (st : List Pt) (j : Nat) (c : Value) : Stays (Is c) ∧ ∀ p ∈ st, p.i ≠ j → waits ops j p.i = false → PStays p (Is c) := ⟨Stays.is c, fun p _ _ _ => Is.pstays c p⟩
end
end
end Go.Proofs.YtpmndmgfoiagnaaDoor

namespace Go.Proofs.YtpmndmgfoiagnaaDoor
open Go Go.RowKit
set_option linter.unusedVariables false

/-- The blocks of these kinds are as they were (none: maps). -/
def SameK (ks : List (Option TypeId)) (w w' : World) : Prop := ∀ b t, t ∈ ks → kindAt w b = some t → w'.heap[b]? = w.heap[b]?
section
variable {ks : List (Option TypeId)} {w w1 w2 : World}
theorem SameK.refl (w : World) : SameK ks w w := fun _ _ _ _ => rfl
theorem kind_same {w w' : World} {b : Nat} {t : Option TypeId} (h : w'.heap[b]? = w.heap[b]?) (hk : kindAt w b = some t) : kindAt w' b = some t := by unfold kindAt at hk ⊢; rw [h]; exact hk
theorem SameK.trans (h : SameK ks w w1) (k : SameK ks w1 w2) : SameK ks w w2 := fun b t ht hk =>
  (k b t ht (kind_same (h b t ht hk) hk)).trans (h b t ht hk)
theorem SameK.below (h : Below w.heap.size w w1) : SameK ks w w1 := fun b t _ hk => h.block b (kind_lt hk)
theorem SameK.drew (w : World) : SameK ks w w.drew := fun _ _ _ _ => rfl
theorem SameK.not {b : Nat} {t t' : Option TypeId} (hk : kindAt w b = some t) (ht : t ∉ ks) (hk' : kindAt w b = some t') : t' ∉ ks := by
  rw [hk] at hk'
  injection hk' with hk'
  subst hk'
  exact ht
theorem SameK.kept {X : Nat → Nat → Prop} (h : Kept X w w1) (hX : ∀ b k, X b k → ∃ t, kindAt w b = some t ∧ t ∉ ks) : SameK ks w w1 := fun b t ht hk =>
  h.heap (kind_lt hk) fun k e => by
    obtain ⟨t', h1, h2⟩ := hX b k e
    exact SameK.not h1 h2 hk ht
theorem SameK.setCell {p : Addr} {t : TypeId} {cs : Array Value} (hb : Blk w p.block t cs) (ht : some t ∉ ks) (u : Value) : SameK ks w (w.setCell p u) := fun b t' ht' hk =>
  Below.heap_setCell w p u b fun e => by
    subst e
    exact SameK.not (kind_blk hb) ht hk ht'
theorem SameK.setRow {g : Nat} {t : TypeId} {cs : Array Value} (hb : Blk w g t cs) (ht : some t ∉ ks) (cs' : Array Value) : SameK ks w (w.setRow g cs') := fun b t' ht' hk =>
  heap_setRow w g cs' b fun e => by
    subst e
    exact SameK.not (kind_blk hb) ht hk ht'
theorem SameK.puts3 {g : Nat} {t : TypeId} {a b c : Value} (hb : Blk w g t #[a, b, c]) (ht : some t ∉ ks) (x y z : Value) : SameK ks w (((w.setCell ⟨g, 0, none⟩ x).setCell ⟨g, 1, none⟩ y).setCell ⟨g, 2, none⟩ z) :=
  ((SameK.setCell (p := ⟨g, 0, none⟩) hb ht x).trans (SameK.setCell (p := ⟨g, 1, none⟩) (hb.put 0 x) ht y)).trans (SameK.setCell (p := ⟨g, 2, none⟩) ((hb.put 0 x).put 1 y) ht z)
theorem SameK.puts5 {g : Nat} {t : TypeId} {cs : Array Value} (hb : Blk w g t cs) (ht : some t ∉ ks) (x y z u v : Value) : SameK ks w (((((w.setCell ⟨g, 0, none⟩ x).setCell ⟨g, 1, none⟩ y).setCell ⟨g, 2, none⟩ z).setCell ⟨g, 3, none⟩ u).setCell ⟨g, 4, none⟩ v) :=
  ((((SameK.setCell (p := ⟨g, 0, none⟩) hb ht x).trans (SameK.setCell (p := ⟨g, 1, none⟩) (hb.put 0 x) ht y)).trans (SameK.setCell (p := ⟨g, 2, none⟩) ((hb.put 0 x).put 1 y) ht z)).trans
    (SameK.setCell (p := ⟨g, 3, none⟩) (((hb.put 0 x).put 1 y).put 2 z) ht u)).trans (SameK.setCell (p := ⟨g, 4, none⟩) ((((hb.put 0 x).put 1 y).put 2 z).put 3 u) ht v)
theorem SameK.less {ks' : List (Option TypeId)} (h : SameK ks w w1) (hs : ∀ t ∈ ks', t ∈ ks) : SameK ks' w w1 := fun b t ht hk => h b t (hs t ht) hk
theorem KSl.same {e : TypeId} {size n : Nat} {v : Value} {xs : List Value} (h : KSl e size w v n xs) (hs : SameK ks w w1) (he : some e ∈ ks) : KSl e size w1 v n xs := h.keep fun b hb => hs b _ he hb
theorem Puts.same {p : Pt} (h : Puts p w w1) (ht : some p.t ∉ ks) : SameK ks w w1 := by
  obtain ⟨cs, cs', h1, _, _, rfl⟩ := h
  exact SameK.setRow h1 ht cs'
theorem Blk.sameK {g : Nat} {t : TypeId} {cs : Array Value} (h : Blk w g t cs) (hs : SameK ks w w1) (ht : some t ∈ ks) : Blk w1 g t cs := (hs g _ ht (kind_blk h)).trans h
theorem MpV.sameK {P : Program} {k : TypeId} {b n : Nat} {f : Int → Option Value} (h : MpV P k w b f n) (hk : kindAt w b = some none) (hs : SameK ks w w1) (ht : none ∈ ks) : MpV P k w1 b f n := h.at (hs b _ ht hk)
theorem Ow.same {e : TypeId} {B : Nat} {v : Value} {xs : List Value} (h : Ow e w B v xs) (hs : SameK ks w w1) (ht : some e ∈ ks) : Ow e w1 B v xs := by
  obtain ⟨h1, h2⟩ := h
  refine ⟨h1, ?_⟩
  have hk := fun b => kind_own (b := b) (show w.ownsRow B e 1 v xs.length xs from ⟨h1, h2⟩)
  rcases h2 with h2 | ⟨g, cap, cur, hv, hg, hh, r⟩
  · exact .inl h2
  · exact .inr ⟨g, cap, cur, hv, hg, (hs g _ ht (hk g (by rw [hv]; rfl))).trans hh, r⟩
end
end Go.Proofs.YtpmndmgfoiagnaaDoor

namespace Go.Proofs.YtpmndmgfoiagnaaDoor
open Go Go.RowKit
set_option linter.unusedVariables false

def rdKs : List (Option TypeId) := [some 109, some 98]
theorem Rk.same {w w' : World} {v : Value} {R : RDk} (h : Rk w v R) (hs : SameK rdKs w w') : Rk w' v R := by
  obtain ⟨v1, v2, v3, rfl, a1, a2, a3⟩ := h
  exact ⟨v1, v2, v3, rfl, KSl.same a1 hs (by decide), KSl.same a2 hs (by decide), KSl.same a3 hs (by decide)⟩
theorem RDd.same {w w' : World} {v : Value} {D : Dsk} (h : RDd w v D) (hs : SameK rdKs w w') : RDd w' v D := by
  obtain ⟨R, a1, a2⟩ := h
  exact ⟨R, a1.same hs, a2⟩
def VRd (D : Dsk) : VP := fun v w => RDd w v D
theorem VRd.shape {D : Dsk} {v : Value} {w : World} (h : VRd D v w) : ∃ A1 c1 A2 c2 A3 c3, v = .agg #[.int .i64 D.size, .int .i64 D.limit, .slice A1 D.nv c1, .slice A2 D.ng c2, .slice A3 D.pend.length c3] := RDd.shape h
theorem VRd.stays (D : Dsk) : Stays (VRd D) := fun _ _ _ hb h => RDd.later h hb
theorem VRd.pstays (D : Dsk) {p : Pt} (ht : some p.t ∉ rdKs) : PStays p (VRd D) := fun _ _ _ hp h => RDd.same h (hp.same ht)

/-- The program's disk. -/
def dkKs : List (Option TypeId) := [some 65, none, some 84, some 3, some 75, some 5]
theorem Ub.same {ks : List (Option TypeId)} {w w' : World} {B : Nat} {v : Value} {l : List UInt8} (h : Ub w B v l) (hs : SameK ks w w') (hk : some 5 ∈ ks) : Ub w' B v l := h.keep fun b hb => hs b _ hk (kind_ub hb)
theorem Secs.same {ks : List (Option TypeId)} {w w' : World} {b n : Nat} {f : SF} (h : Secs w b f n) (hs : SameK ks w w') (h1 : none ∈ ks) (h2 : some 5 ∈ ks) : Secs w' b f n := by
  have hk := h.kind
  obtain ⟨m, hm, hr⟩ := h
  exact ⟨m, hm.sameK hk hs h1, fun a ha => (hr a ha).keep fun _ _ h => h.same hs h2⟩
theorem PnIs.same {w w' : World} {v : Value} {p : Pnd} (h : PnIs w v p) (hs : SameK dkKs w w') : PnIs w' v p := by
  cases p with
  | wr a b =>
    obtain ⟨ga, gb, A, c, h1, h2, h3, h4⟩ := h
    exact ⟨ga, gb, A, c, h1, h2.sameK hs (by decide), h3.sameK hs (by decide), h4.same hs (by decide)⟩
  | fr a =>
    obtain ⟨ga, h1, h2⟩ := h
    exact ⟨ga, h1, h2.sameK hs (by decide)⟩
theorem Dk.same {w w' : World} {h : Zn} {D : Dsk} (d : Dk w h D) (hs : SameK dkKs w w') : Dk w' h D := by
  obtain ⟨vs, h1, h2⟩ := d.pend
  exact ⟨d.blk.sameK hs (by decide), d.view.same hs (by decide) (by decide), d.ground.same hs (by decide) (by decide), d.ne, vs, h1.same hs (by decide), h2.keep fun _ _ h => h.same hs⟩
/-- A call on the program's disk leaves blocks of other kinds. -/
theorem Stp.same {ks : List (Option TypeId)} {h h' : Zn} {w w' : World} {D : Dsk} (s : Stp h w h' w') (d : Dk w h D) (hk : some 65 ∉ ks) (h0 : none ∉ ks) (hp : some 84 ∉ ks) : SameK ks w w' := fun b t ht hb =>
  s.turn.block b (kind_lt hb) fun e => by
    rcases d.kinds e with h3 | h3 | h3
    · exact SameK.not h3 hk hb ht
    · exact SameK.not h3 h0 hb ht
    · exact SameK.not h3 hp hb ht
end Go.Proofs.YtpmndmgfoiagnaaDoor
