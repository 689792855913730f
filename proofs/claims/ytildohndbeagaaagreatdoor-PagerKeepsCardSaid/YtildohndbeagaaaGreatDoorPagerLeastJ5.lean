/- What the proof of PagerLeast needs, part 5. -/
import Derived.Test.YtildohndbeagaaaGreatDoorPagerLeastJ4
import Derived.BigRegion
import Derived.Deep.RegionHeld3
import Derived.BigQuiet
import Derived.Deep.QuietTactic
import Derived.StillTailTactics
import Derived.IntWalk
import Derived.Laws.EntriesVeiled
import Derived.Lib.TrailingZeros
import Derived.Laws.BitsAllLaws

namespace Go.Proofs.YtildohndbeagaaaGreatDoor
open Go Go.RowKit
set_option linter.unusedVariables false

/-- What a sector tells. -/
def tellsO : Option (List UInt8) → Option (Nat × List UInt8)
  | some s => tellsB s
  | none => none
def TlPost (f : SF) (a : Int) (w : World) (e : Ending) (w' : World) : Prop :=
  ∃ (r : Nat × List UInt8) (ok : Bool), e = .returned (.tuple #[recV r, .bool ok]) ∧ tellsO (f a) = (if ok then some r else none) ∧ Below w.heap.size w w'
theorem tl_none {f : SF} {a : Int} (r : Nat × List UInt8) {w w' : World} (h : tellsO (f a) = none) (hb : Below w.heap.size w w') : TlPost f a w (.returned (.tuple #[recV r, .bool false])) w' := ⟨r, false, rfl, h, hb⟩
theorem tl_some {f : SF} {a : Int} (r : Nat × List UInt8) {w w' : World} (h : tellsO (f a) = some r) (hb : Below w.heap.size w w') : TlPost f a w (.returned (.tuple #[recV r, .bool true])) w' := ⟨r, true, rfl, h, hb⟩

theorem tl_blk {W : World} {g : Nat} {t : TypeId} {a b : Value} (h : Blk W g t #[a, b]) (x y : Value) : Blk ((W.setCell ⟨g, 0, none⟩ x).setCell ⟨g, 1, none⟩ y).drew g t #[x, y] := (h.put 0 x).put 1 y
theorem tl_below {B : Nat} {w W : World} (h : Below B w W) {g : Nat} (hg : B ≤ g) (x y : Value) : Below B w ((W.setCell ⟨g, 0, none⟩ x).setCell ⟨g, 1, none⟩ y).drew := ((h.setCell (p := ⟨g, 0, none⟩) hg x).setCell (p := ⟨g, 1, none⟩) hg y).drew
theorem tells_out {f : SF} {a : Int} {s : List UInt8} (hv : f a = some s) : tellsO (f a) = tellsB s := by rw [hv]; rfl
set_option maxHeartbeats 4000000 in
set_option maxRecDepth 100000 in
theorem mtells_any (h : Zn) (D : Dsk) (a : Int) (w : World) (hd : Dk w h D) (hok : D.Ok) (ha : InI a) :
    Calls Tryz.prog 31 #[.pointer (some ⟨h.g, 0, none⟩), .int .i64 a] w (TlPost D.view a w) := by
  have HD := Lib.hid hd
  have HOK := Lib.hid hok
  have b0 := Blk.new w 85 #[.int .u64 0, .string ⟨#[]⟩]
  have q0 := (Below.refl w.heap.size w).alloc (Nat.le_refl _) (.cells #[.int .u64 0, .string ⟨#[]⟩] 85)
  have HB0 := Lib.hid b0
  have HQ0 := Lib.hid q0
  have HL0 : Hid (Below w.heap.size w (w.alloc (.cells #[.int .u64 0, .string ⟨#[]⟩] 85))) := q0
  clear hd hok b0 q0
  go_enter Tryz.func31, Tryz.ntmps31
  go_wp2_with fail
  refine (dread_any h D a _ (HD.out.later HL0.out) HOK.out ha).mono ?_
  rintro e w1 ⟨hs, hn, hb1⟩
  have HB1 := Lib.hid hb1
  cases hv : D.view a with
  | none =>
    obtain rfl := hn hv
    have HT : Hid (tellsO (D.view a) = none) := by rw [Hid, hv]; rfl
    clear hs hn hb1 hv
    go_wp2_with fail
    refine (rget_any (fun _ => True) _ [] _ (by simp) Sl.nil).mono ?_
    rintro e w2 ⟨rfl, hb2⟩
    have hr : recGet [] = none := rfl
    rw [hr]
    unfold rgetV recV
    have B0 := Lib.hid ((HB0.out.later HB1.out).later hb2)
    have Q2 := Lib.hid ((HQ0.out.trans (HB1.out.mono HQ0.out.size)).trans (hb2.mono (Nat.le_trans HQ0.out.size HB1.out.size)))
    have hlt : w.heap.size < w2.heap.size := B0.out.lt
    have B0a := B0.out.alloc (.cells #[.int .u64 ((0 : Nat) : Int), .string (st [])] 85)
    have c0 : (w2.alloc (.cells #[.int .u64 ((0 : Nat) : Int), .string (st [])] 85)).cell? ⟨w.heap.size, 0, none⟩ = some (.int .u64 0) := B0a.cell 0
    have c1 : (w2.alloc (.cells #[.int .u64 ((0 : Nat) : Int), .string (st [])] 85)).cell? ⟨w.heap.size, 1, none⟩ = some (.string ⟨#[]⟩) := B0a.cell 1
    have cf0 : (w2.alloc (.cells #[.int .u64 ((0 : Nat) : Int), .string (st [])] 85)).frozen? ⟨w.heap.size, 0, none⟩ = false := B0a.free 0
    have cf1 : (w2.alloc (.cells #[.int .u64 ((0 : Nat) : Int), .string (st [])] 85)).frozen? ⟨w.heap.size, 1, none⟩ = false := B0a.free 1
    have B8 := Blk.new w2 85 #[.int .u64 ((0 : Nat) : Int), .string (st [])]
    have d0 : (w2.alloc (.cells #[.int .u64 ((0 : Nat) : Int), .string (st [])] 85)).cell? ⟨w2.heap.size, 0, none⟩ = some (.int .u64 ((0 : Nat) : Int)) := B8.cell 0
    have d1 : (w2.alloc (.cells #[.int .u64 ((0 : Nat) : Int), .string (st [])] 85)).cell? ⟨w2.heap.size, 1, none⟩ = some (.string (st [])) := B8.cell 1
    have df0 : (w2.alloc (.cells #[.int .u64 ((0 : Nat) : Int), .string (st [])] 85)).frozen? ⟨w2.heap.size, 0, none⟩ = false := B8.free 0
    have df1 : (w2.alloc (.cells #[.int .u64 ((0 : Nat) : Int), .string (st [])] 85)).frozen? ⟨w2.heap.size, 1, none⟩ = false := B8.free 1
    have BW := Lib.hid B0a
    have QW := Lib.hid (Q2.out.alloc Q2.out.size (.cells #[.int .u64 ((0 : Nat) : Int), .string (st [])] 85))
    clear hb2 B0a B8
    go_wp2_with fail
    generalize hW : w2.alloc _ = W at *
    have n8 : ¬ w.heap.size = w2.heap.size := by omega
    have n8' : ¬ w2.heap.size = w.heap.size := by omega
    go_region
    go_wp2_with fail
    refine bodyPost_ret (results_cell2 rfl _ _ w.heap.size rfl (tl_blk BW.out _ _) recTy) rfl ?_
    exact tl_none (0, []) HT.out (tl_below QW.out (Nat.le_refl _) _ _)
  | some s =>
    obtain ⟨A, c, rfl, hob⟩ := hs s hv
    have HOB := Lib.hid hob
    have hsl : s.length ≤ 512 := (HOK.out.view.at hv).2.2
    have HTV := Lib.hid (tells_out hv)
    clear hs hn hb1 hv hob
    go_wp2_with fail
    refine (rget_any _ _ s _ (by omega) HOB.out.bs).mono ?_
    rintro e w2 ⟨rfl, hb2⟩
    have B0 := Lib.hid ((HB0.out.later HB1.out).later hb2)
    have Q2 := Lib.hid ((HQ0.out.trans (HB1.out.mono HQ0.out.size)).trans (hb2.mono (Nat.le_trans HQ0.out.size HB1.out.size)))
    have hlt : w.heap.size < w2.heap.size := B0.out.lt
    have n8 : ¬ w.heap.size = w2.heap.size := by omega
    have n8' : ¬ w2.heap.size = w.heap.size := by omega
    clear hb2
    cases hg : recGet s with
    | none =>
      have HT : Hid (tellsO (D.view a) = none) := by rw [Hid, HTV.out]; unfold tellsB; rw [hg]
      unfold rgetV recV
      have B0a := B0.out.alloc (.cells #[.int .u64 ((0 : Nat) : Int), .string (st [])] 85)
      have c0 : (w2.alloc (.cells #[.int .u64 ((0 : Nat) : Int), .string (st [])] 85)).cell? ⟨w.heap.size, 0, none⟩ = some (.int .u64 0) := B0a.cell 0
      have c1 : (w2.alloc (.cells #[.int .u64 ((0 : Nat) : Int), .string (st [])] 85)).cell? ⟨w.heap.size, 1, none⟩ = some (.string ⟨#[]⟩) := B0a.cell 1
      have cf0 : (w2.alloc (.cells #[.int .u64 ((0 : Nat) : Int), .string (st [])] 85)).frozen? ⟨w.heap.size, 0, none⟩ = false := B0a.free 0
      have cf1 : (w2.alloc (.cells #[.int .u64 ((0 : Nat) : Int), .string (st [])] 85)).frozen? ⟨w.heap.size, 1, none⟩ = false := B0a.free 1
      have B8 := Blk.new w2 85 #[.int .u64 ((0 : Nat) : Int), .string (st [])]
      have d0 : (w2.alloc (.cells #[.int .u64 ((0 : Nat) : Int), .string (st [])] 85)).cell? ⟨w2.heap.size, 0, none⟩ = some (.int .u64 ((0 : Nat) : Int)) := B8.cell 0
      have d1 : (w2.alloc (.cells #[.int .u64 ((0 : Nat) : Int), .string (st [])] 85)).cell? ⟨w2.heap.size, 1, none⟩ = some (.string (st [])) := B8.cell 1
      have df0 : (w2.alloc (.cells #[.int .u64 ((0 : Nat) : Int), .string (st [])] 85)).frozen? ⟨w2.heap.size, 0, none⟩ = false := B8.free 0
      have df1 : (w2.alloc (.cells #[.int .u64 ((0 : Nat) : Int), .string (st [])] 85)).frozen? ⟨w2.heap.size, 1, none⟩ = false := B8.free 1
      have BW := Lib.hid B0a
      have QW := Lib.hid (Q2.out.alloc Q2.out.size (.cells #[.int .u64 ((0 : Nat) : Int), .string (st [])] 85))
      clear B0a B8 hg
      go_wp2_with fail
      generalize hW : w2.alloc _ = W at *
      go_region
      go_wp2_with fail
      refine bodyPost_ret (results_cell2 rfl _ _ w.heap.size rfl (tl_blk BW.out _ _) recTy) rfl ?_
      exact tl_none (0, []) HT.out (tl_below QW.out (Nat.le_refl _) _ _)
    | some x =>
      obtain ⟨⟨q, t⟩, n⟩ := x
      unfold rgetV recV
      have HN : Hid (tellsO (D.view a) = if n = s.length ∧ 0 < q then some (q, t) else none) := by rw [Hid, HTV.out]; unfold tellsB; rw [hg]
      have B0a := B0.out.alloc (.cells #[.int .u64 (q : Int), .string (st t)] 85)
      have c0 : (w2.alloc (.cells #[.int .u64 (q : Int), .string (st t)] 85)).cell? ⟨w.heap.size, 0, none⟩ = some (.int .u64 0) := B0a.cell 0
      have c1 : (w2.alloc (.cells #[.int .u64 (q : Int), .string (st t)] 85)).cell? ⟨w.heap.size, 1, none⟩ = some (.string ⟨#[]⟩) := B0a.cell 1
      have cf0 : (w2.alloc (.cells #[.int .u64 (q : Int), .string (st t)] 85)).frozen? ⟨w.heap.size, 0, none⟩ = false := B0a.free 0
      have cf1 : (w2.alloc (.cells #[.int .u64 (q : Int), .string (st t)] 85)).frozen? ⟨w.heap.size, 1, none⟩ = false := B0a.free 1
      have B8 := Blk.new w2 85 #[.int .u64 (q : Int), .string (st t)]
      have d0 : (w2.alloc (.cells #[.int .u64 (q : Int), .string (st t)] 85)).cell? ⟨w2.heap.size, 0, none⟩ = some (.int .u64 (q : Int)) := B8.cell 0
      have d1 : (w2.alloc (.cells #[.int .u64 (q : Int), .string (st t)] 85)).cell? ⟨w2.heap.size, 1, none⟩ = some (.string (st t)) := B8.cell 1
      have df0 : (w2.alloc (.cells #[.int .u64 (q : Int), .string (st t)] 85)).frozen? ⟨w2.heap.size, 0, none⟩ = false := B8.free 0
      have df1 : (w2.alloc (.cells #[.int .u64 (q : Int), .string (st t)] 85)).frozen? ⟨w2.heap.size, 1, none⟩ = false := B8.free 1
      have BW := Lib.hid B0a
      have QW := Lib.hid (Q2.out.alloc Q2.out.size (.cells #[.int .u64 (q : Int), .string (st t)] 85))
      clear B0a B8 hg
      by_cases hns : n = s.length
      · subst hns
        by_cases hq : 0 < q
        · have HT : Hid (tellsO (D.view a) = some (q, t)) := by rw [Hid, HN.out, if_pos ⟨rfl, hq⟩]
          have hqi : (0 : Int) < (q : Int) := by omega
          have hqd : decide (0 < q) = true := by simpa using hq
          clear hq
          go_wp2_with fail
          generalize hW : w2.alloc _ = W at *
          go_region
          go_wp2_with fail
          refine bodyPost_ret (results_cell2 rfl _ _ w.heap.size rfl (tl_blk BW.out _ _) recTy) rfl ?_
          exact tl_some (q, t) HT.out (tl_below QW.out (Nat.le_refl _) _ _)
        · obtain rfl : q = 0 := by omega
          have HT : Hid (tellsO (D.view a) = none) := by rw [Hid, HN.out, if_neg (by omega)]
          clear hq
          go_wp2_with fail
          generalize hW : w2.alloc _ = W at *
          go_region
          go_wp2_with fail
          refine bodyPost_ret (results_cell2 rfl _ _ w.heap.size rfl (tl_blk BW.out _ _) recTy) rfl ?_
          exact tl_none (0, t) HT.out (tl_below QW.out (Nat.le_refl _) _ _)
      · have HT : Hid (tellsO (D.view a) = none) := by rw [Hid, HN.out, if_neg (fun h => hns h.1)]
        have hnb : ((n : Int) == (s.length : Int)) = false := by simp; omega
        clear hns
        go_wp2_with fail
        generalize hW : w2.alloc _ = W at *
        go_region
        go_wp2_with fail
        refine bodyPost_ret (results_cell2 rfl _ _ w.heap.size rfl (tl_blk BW.out _ _) recTy) rfl ?_
        exact tl_none (q, t) HT.out (tl_below QW.out (Nat.le_refl _) _ _)
end Go.Proofs.YtildohndbeagaaaGreatDoor

namespace Go.Proofs.YtildohndbeagaaaGreatDoor
open Go Go.RowKit
set_option linter.unusedVariables false

/-- Behind i sectors. -/
def mtUp (f : SF) (a : Int) : Nat → Nat × Int × List UInt8
  | 0 => (0, 1, [])
  | i + 1 => mtStep f a (mtUp f a i) (i : Int)
theorem mtOpen_eq (f : SF) (a : Int) : mtOpen f a = mtUp f a 2 := rfl
theorem mtStep_eq (f : SF) (a : Int) (x : Nat × Int × List UInt8) (i : Int) : mtStep f a x i = match tellsO (f (a + i)) with | some (q, t) => if x.1 < q then (q, i, t) else x | none => x := by
  unfold mtStep tellsO
  cases f (a + i) with
  | none => rfl
  | some s => rfl
/-- The meta page in memory. -/
structure Mk (w : World) (g : Nat) (h : Zn) (a : Int) (num : Nat) (last : Int) : Prop where
  blk : Blk w g 83 #[.pointer (some ⟨h.g, 0, none⟩), .int .i64 a, .int .u64 (num : Int), .int .i64 last]
structure MbSt (w wr : World) (h : Zn) (a : Int) (x : Nat × Int × List UInt8) : Prop where
  blk : Blk wr w.heap.size 83 #[.pointer (some ⟨h.g, 0, none⟩), .int .i64 a, .int .u64 (x.1 : Int), .int .i64 x.2.1]
  below : Below w.heap.size w wr
theorem MbSt.to {w wr w' : World} {h : Zn} {a : Int} {x : Nat × Int × List UInt8} (s : MbSt w wr h a x) (hb : Below wr.heap.size wr w') : MbSt w w' h a x := ⟨s.blk.later hb, s.below.trans (hb.mono s.below.size)⟩
theorem mb_put {w W : World} {h : Zn} {a : Int} {x : Nat × Int × List UInt8} (s : MbSt w W h a x) (n : Nat) {q : Nat} {i : Int} {t : List UInt8} :
    MbSt w (((W.drewN n).setCell ⟨w.heap.size, 2, none⟩ (.int .u64 (q : Int))).setCell ⟨w.heap.size, 3, none⟩ (.int .i64 i)).drew h a (q, i, t) := by
  have s2 := s.to (below_drewN (Below.refl _ _) n)
  exact ⟨(s2.blk.put 2 (.int .u64 (q : Int))).put 3 (.int .i64 i), ((s2.below.setCell (p := ⟨w.heap.size, 2, none⟩) (Nat.le_refl _) _).setCell (p := ⟨w.heap.size, 3, none⟩) (Nat.le_refl _) _).drew⟩
/-- What Open answers. -/
def MoPost (h : Zn) (D : Dsk) (a : Int) (w : World) (e : Ending) (w' : World) : Prop :=
  ∃ g, e = .returned (.tuple #[.pointer (some ⟨g, 0, none⟩), .string (st (mtOpen D.view a).2.2), .int .i64 (mtErr (mtOpen D.view a) : Nat)]) ∧
    Mk w' g h a (mtOpen D.view a).1 (mtOpen D.view a).2.1 ∧ w.heap.size ≤ g ∧ Below w.heap.size w w'
theorem mtUp_empty (f : SF) (a : Int) : ∀ i, (mtUp f a i).1 = 0 → (mtUp f a i).2.2 = []
  | 0, _ => rfl
  | i + 1, h => by
    have ih := mtUp_empty f a i
    rw [mtUp, mtStep_eq] at h ⊢
    cases ht : tellsO (f (a + (i : Int))) with
    | none => rw [ht] at h; exact ih h
    | some x =>
      obtain ⟨q, t⟩ := x
      rw [ht] at h
      simp only at h ⊢
      by_cases hq : (mtUp f a i).1 < q
      · rw [if_pos hq] at h
        simp only at h
        omega
      · rw [if_neg hq] at h ⊢
        exact ih h
theorem mo_fin {h : Zn} {D : Dsk} {a : Int} {w wr : World} {b : List UInt8} {n : Nat} (s : MbSt w wr h a (mtUp D.view a 2)) (hb : (mtUp D.view a 2).2.2 = b) (hn : mtErr (mtUp D.view a 2) = n) {ev : Int} (he : ev = (n : Int)) :
    MoPost h D a w (.returned (.tuple #[.pointer (some ⟨w.heap.size, 0, none⟩), .string (st b), .int .i64 ev])) wr := by
  subst hb hn he
  exact ⟨w.heap.size, rfl, ⟨s.blk⟩, Nat.le_refl _, s.below⟩

set_option maxHeartbeats 1000000 in
theorem mopen_bad (v : Value) (a : Int) (w : World) (h : a < 0 ∨ 65534 < a) :
    Calls Tryz.prog 14 #[v, .int .i64 a] w fun e w' => e = .returned (.tuple #[.pointer none, .string (st []), .int .i64 122]) ∧ w = w' := by
  rcases Decidable.em (a < 0) with h0 | h0
  case' inl => have hx := h0
  case' inr => have hx : 65534 < a := h.resolve_left h0
  all_goals
    clear h
    go_enter Tryz.func14, Tryz.ntmps14
    go_wp2_with fail
    go_ret3
    exact ⟨rfl, rfl⟩

set_option maxHeartbeats 4000000 in
set_option maxRecDepth 100000 in
theorem mopen_any (h : Zn) (D : Dsk) (a : Int) (w : World) (hd : Dk w h D) (hok : D.Ok) (h0 : 0 ≤ a) (h1 : a ≤ 65534) :
    Calls Tryz.prog 14 #[.pointer (some ⟨h.g, 0, none⟩), .int .i64 a] w (MoPost h D a w) := by
  have HD := Lib.hid hd
  have HOK := Lib.hid hok
  have n0 : ¬ a < 0 := by omega
  have n1 : ¬ 65534 < a := by omega
  have S0 : Hid (MbSt w (w.alloc (.cells #[.pointer (some ⟨h.g, 0, none⟩), .int .i64 a, .int .u64 0, .int .i64 1] 83)) h a (mtUp D.view a 0)) := ⟨Blk.new _ _ _, (Below.refl _ _).alloc (Nat.le_refl _) _⟩
  clear hd hok
  go_enter Tryz.func14, Tryz.ntmps14
  go_wp2_with fail
  go_loopw [8, 22] (fun bv iv wr => ∃ i : Nat, iv = .int .i64 (i : Int) ∧ i ≤ 2 ∧ bv = .string (st (mtUp D.view a i).2.2) ∧ Hid (MbSt w wr h a (mtUp D.view a i))) (fun _ iv _ => 2 - (intOf iv).toNat)
  case atStart => exact ⟨0, rfl, by omega, rfl, S0⟩
  case round =>
    clear S0
    obtain ⟨i, rfl, hi, rfl, HST⟩ := hrel
    by_cases hil : i < 2
    · have hai : InI (a + (i : Int)) := by unfold InI; omega
      have HUP : Hid (mtUp D.view a (i + 1) = mtStep D.view a (mtUp D.view a i) (i : Int)) := rfl
      obtain ⟨x, hx⟩ : ∃ x, mtUp D.view a i = x := ⟨_, rfl⟩
      rw [hx] at HUP HST
      rw [hx]
      obtain ⟨num, last, body⟩ := x
      clear hx
      go_wp2_with fail
      refine (mtells_any h D _ _ (HD.out.later HST.out.below) HOK.out hai).mono ?_
      rintro e w1 ⟨⟨q, t⟩, ok, rfl, ht, hb1⟩
      have s1 := HST.out.to hb1
      have HS2 := Lib.hid (s1.to ((Below.refl _ _).alloc (Nat.le_refl _) (.cells #[.int .u64 (q : Int), .string (st t)] 85)))
      have B8 := Blk.new w1 85 #[.int .u64 (q : Int), .string (st t)]
      have d0 : (w1.alloc (.cells #[.int .u64 (q : Int), .string (st t)] 85)).cell? ⟨w1.heap.size, 0, none⟩ = some (.int .u64 (q : Int)) := B8.cell 0
      have d1 : (w1.alloc (.cells #[.int .u64 (q : Int), .string (st t)] 85)).cell? ⟨w1.heap.size, 1, none⟩ = some (.string (st t)) := B8.cell 1
      have df0 : (w1.alloc (.cells #[.int .u64 (q : Int), .string (st t)] 85)).frozen? ⟨w1.heap.size, 0, none⟩ = false := B8.free 0
      have df1 : (w1.alloc (.cells #[.int .u64 (q : Int), .string (st t)] 85)).frozen? ⟨w1.heap.size, 1, none⟩ = false := B8.free 1
      have m0 : (w1.alloc (.cells #[.int .u64 (q : Int), .string (st t)] 85)).cell? ⟨w.heap.size, 0, none⟩ = some (.pointer (some ⟨h.g, 0, none⟩)) := HS2.out.blk.cell 0
      have m1 : (w1.alloc (.cells #[.int .u64 (q : Int), .string (st t)] 85)).cell? ⟨w.heap.size, 1, none⟩ = some (.int .i64 a) := HS2.out.blk.cell 1
      have m2 : (w1.alloc (.cells #[.int .u64 (q : Int), .string (st t)] 85)).cell? ⟨w.heap.size, 2, none⟩ = some (.int .u64 (num : Int)) := HS2.out.blk.cell 2
      have m3 : (w1.alloc (.cells #[.int .u64 (q : Int), .string (st t)] 85)).cell? ⟨w.heap.size, 3, none⟩ = some (.int .i64 last) := HS2.out.blk.cell 3
      have mf0 : (w1.alloc (.cells #[.int .u64 (q : Int), .string (st t)] 85)).frozen? ⟨w.heap.size, 0, none⟩ = false := HS2.out.blk.free 0
      have mf1 : (w1.alloc (.cells #[.int .u64 (q : Int), .string (st t)] 85)).frozen? ⟨w.heap.size, 1, none⟩ = false := HS2.out.blk.free 1
      have mf2 : (w1.alloc (.cells #[.int .u64 (q : Int), .string (st t)] 85)).frozen? ⟨w.heap.size, 2, none⟩ = false := HS2.out.blk.free 2
      have mf3 : (w1.alloc (.cells #[.int .u64 (q : Int), .string (st t)] 85)).frozen? ⟨w.heap.size, 3, none⟩ = false := HS2.out.blk.free 3
      have hlt : w.heap.size < w1.heap.size := s1.blk.lt
      have n8 : ¬ w.heap.size = w1.heap.size := by omega
      have n8' : ¬ w1.heap.size = w.heap.size := by omega
      have HT := Lib.hid ht
      clear B8 s1 hb1 ht
      unfold recV
      cases ok with
      | false =>
        have HU : Hid (mtUp D.view a (i + 1) = (num, last, body)) := by rw [Hid, HUP.out, mtStep_eq, HT.out]; rfl
        go_wp2_with fail
        generalize hW : w1.alloc _ = W at *
        go_quiet (fail)
        go_wp2_with fail
        go_roundw
        case rel => exact ⟨i + 1, by go_num, by omega, by rw [HU.out], by rw [HU.out]; exact HS2.out.to (below_drewN (Below.refl _ _) _)⟩
        case measure => simp [intOf]; omega
      | true =>
        by_cases hq : num < q
        · have HU : Hid (mtUp D.view a (i + 1) = (q, (i : Int), t)) := by rw [Hid, HUP.out, mtStep_eq, HT.out]; simp [hq]
          have hqd : decide (num < q) = true := by simpa using hq
          clear hq
          go_wp2_with fail
          generalize hW : w1.alloc _ = W at *
          go_quiet (fail)
          go_wp2_with fail
          go_region
          go_wp2_with fail
          go_roundw
          case rel => exact ⟨i + 1, by go_num, by omega, by rw [HU.out], by rw [HU.out]; exact mb_put HS2.out nq⟩
          case measure => simp [intOf]; omega
        · have HU : Hid (mtUp D.view a (i + 1) = (num, last, body)) := by rw [Hid, HUP.out, mtStep_eq, HT.out]; simp [hq]
          have hqd : decide (num < q) = false := by simpa using hq
          clear hq
          go_wp2_with fail
          generalize hW : w1.alloc _ = W at *
          go_quiet (fail)
          go_wp2_with fail
          go_roundw
          case rel => exact ⟨i + 1, by go_num, by omega, by rw [HU.out], by rw [HU.out]; exact HS2.out.to (below_drewN (Below.refl _ _) _)⟩
          case measure => simp [intOf]; omega
    · obtain rfl : i = 2 := by omega
      have HE := mtUp_empty D.view a 2
      obtain ⟨x, hx⟩ : ∃ x, mtUp D.view a 2 = x := ⟨_, rfl⟩
      have HX := Lib.hid hx
      rw [hx] at HE HST ⊢
      obtain ⟨num, last, body⟩ := x
      simp only at HE HST
      have m0 : (wr).cell? ⟨w.heap.size, 0, none⟩ = some (.pointer (some ⟨h.g, 0, none⟩)) := HST.out.blk.cell 0
      have m1 : (wr).cell? ⟨w.heap.size, 1, none⟩ = some (.int .i64 a) := HST.out.blk.cell 1
      have m2 : (wr).cell? ⟨w.heap.size, 2, none⟩ = some (.int .u64 (num : Int)) := HST.out.blk.cell 2
      have m3 : (wr).cell? ⟨w.heap.size, 3, none⟩ = some (.int .i64 last) := HST.out.blk.cell 3
      have mf0 : (wr).frozen? ⟨w.heap.size, 0, none⟩ = false := HST.out.blk.free 0
      have mf1 : (wr).frozen? ⟨w.heap.size, 1, none⟩ = false := HST.out.blk.free 1
      have mf2 : (wr).frozen? ⟨w.heap.size, 2, none⟩ = false := HST.out.blk.free 2
      have mf3 : (wr).frozen? ⟨w.heap.size, 3, none⟩ = false := HST.out.blk.free 3
      have HEE := Lib.hid HE
      clear HE hx
      by_cases hn0 : num = 0
      · subst hn0
        go_wp2_with fail
        go_ret3
        exact mo_fin (by rw [HX.out]; exact HST.out) (by rw [HX.out]; exact HEE.out (by trivial)) (by rw [HX.out]; rfl) rfl
      · have hnb : ((num : Int) == 0) = false := by simp; omega
        go_wp2_with fail
        go_ret3
        exact mo_fin (by rw [HX.out]; exact HST.out) (by rw [HX.out]) (by rw [HX.out]; exact if_neg hn0) rfl
end Go.Proofs.YtildohndbeagaaaGreatDoor

namespace Go.Proofs.YtildohndbeagaaaGreatDoor
open Go Go.RowKit
set_option linter.unusedVariables false

set_option maxHeartbeats 2000000 in
set_option maxRecDepth 100000 in
theorem mclos1_any (h : Zn) (D : Dsk) (g bm : Nat) (a : Int) (num : Nat) (last : Int) (w : World) (hd : Dk w h D) (hok : D.Ok) (hm : Mk w g h a num last) (hb : Blk w bm 39 #[.pointer (some ⟨g, 0, none⟩)]) :
    Calls Tryz.prog 59 #[.pointer (some ⟨bm, 0, none⟩)] w fun e w' => e = .returned (.int .i64 0) ∧ ∃ h', Dk w' h' D.sync ∧ Stp h w h' w' := by
  have m0 : w.cell? ⟨g, 0, none⟩ = some (.pointer (some ⟨h.g, 0, none⟩)) := hm.blk.cell 0
  have b0 : w.cell? ⟨bm, 0, none⟩ = some (.pointer (some ⟨g, 0, none⟩)) := hb.cell 0
  have HD := Lib.hid hd
  have HOK := Lib.hid hok
  clear hd hok hm hb
  go_enter Tryz.func59, Tryz.ntmps59
  go_wp2_with fail
  refine (dsync_any h D w HD.out HOK.out).mono ?_
  rintro e w1 ⟨rfl, h', h1, h2⟩
  go_wp2_with fail
  go_ret
  exact ⟨rfl, h', h1, h2⟩

set_option maxHeartbeats 2000000 in
set_option maxRecDepth 100000 in
theorem mclos2_any (h : Zn) (D : Dsk) (g bm bo : Nat) (a o : Int) (num : Nat) (last : Int) (w : World) (hd : Dk w h D) (hok : D.Ok) (hlen : D.pend.length ≤ 1000000) (hm : Mk w g h a num last) (h0 : 0 ≤ a) (h1 : a ≤ 65534) (ho0 : 0 ≤ o) (ho1 : o ≤ 1)
    (hb : Blk w bm 39 #[.pointer (some ⟨g, 0, none⟩)]) (hbo : Blk w bo 3 #[.int .i64 o]) :
    Calls Tryz.prog 60 #[.pointer (some ⟨bm, 0, none⟩), .pointer (some ⟨bo, 0, none⟩)] w fun e w' => e = .returned (.int .i64 0) ∧ ∃ h', Dk w' h' (D.free (a + o)) ∧ Stp h w h' w' := by
  have m0 : w.cell? ⟨g, 0, none⟩ = some (.pointer (some ⟨h.g, 0, none⟩)) := hm.blk.cell 0
  have m1 : w.cell? ⟨g, 1, none⟩ = some (.int .i64 a) := hm.blk.cell 1
  have b0 : w.cell? ⟨bm, 0, none⟩ = some (.pointer (some ⟨g, 0, none⟩)) := hb.cell 0
  have o0 : w.cell? ⟨bo, 0, none⟩ = some (.int .i64 o) := hbo.cell 0
  have HD : Hid (Dk w.drew h D) := hd.later (below_drewN (Below.refl _ _) 1)
  have HOK := Lib.hid hok
  have hi : InI (a + o) := by unfold InI; omega
  have HB : Hid (Stp h w h w.drew) := Stp.below (below_drewN (Below.refl _ _) 1)
  clear hd hok hm hb hbo
  go_enter Tryz.func60, Tryz.ntmps60
  go_wp2_with fail
  go_still_tail 10, (by kernel_rfl)
  change wpList _ _ _ _ _ w.drew
  generalize w.drew = w2 at *
  go_wp2_with fail
  refine (dfree_any h D (a + o) _ HD.out HOK.out hi (by omega)).mono ?_
  rintro e w1 ⟨rfl, h', h1, h2⟩
  go_wp2_with fail
  go_ret
  exact ⟨rfl, h', h1, HB.out.trans h2⟩

set_option maxHeartbeats 2000000 in
set_option maxRecDepth 100000 in
theorem mclos3_any (h : Zn) (D : Dsk) (g bm bo bb : Nat) (a o : Int) (num : Nat) (last : Int) (S : Nat → Prop) (v0 : Value) (b : List UInt8) (w : World) (hd : Dk w h D) (hok : D.Ok) (hlen : D.pend.length ≤ 1000000) (hm : Mk w g h a num last) (h0 : 0 ≤ a) (h1 : a ≤ 65534) (ho0 : 0 ≤ o) (ho1 : o ≤ 1)
    (hb : Blk w bm 39 #[.pointer (some ⟨g, 0, none⟩)]) (hbo : Blk w bo 3 #[.int .i64 o]) (hbb : Blk w bb 68 #[v0]) (hv : Bs S w v0 b) (hbl : b.length ≤ 1099511627776) :
    Calls Tryz.prog 62 #[.pointer (some ⟨bm, 0, none⟩), .pointer (some ⟨bo, 0, none⟩), .pointer (some ⟨bb, 0, none⟩)] w fun e w' => e = .returned (.int .i64 (D.why (a + o) b : Int)) ∧ ∃ h', Dk w' h' (D.write (a + o) b) ∧ Stp h w h' w' := by
  have m0 : w.cell? ⟨g, 0, none⟩ = some (.pointer (some ⟨h.g, 0, none⟩)) := hm.blk.cell 0
  have m1 : w.cell? ⟨g, 1, none⟩ = some (.int .i64 a) := hm.blk.cell 1
  have b0 : w.cell? ⟨bm, 0, none⟩ = some (.pointer (some ⟨g, 0, none⟩)) := hb.cell 0
  have o0 : w.cell? ⟨bo, 0, none⟩ = some (.int .i64 o) := hbo.cell 0
  have v00 : w.cell? ⟨bb, 0, none⟩ = some v0 := hbb.cell 0
  have HD : Hid (Dk w.drew h D) := hd.later (below_drewN (Below.refl _ _) 1)
  have HV : Hid (Bs S w.drew v0 b) := Sl.drew hv
  have HOK := Lib.hid hok
  have hi : InI (a + o) := by unfold InI; omega
  have HB : Hid (Stp h w h w.drew) := Stp.below (below_drewN (Below.refl _ _) 1)
  obtain ⟨A, c, rfl, -⟩ := hv.at
  clear hd hok hm hb hbo hbb hv
  go_enter Tryz.func62, Tryz.ntmps62
  go_wp2_with fail
  go_still_tail 11, (by kernel_rfl)
  change wpList _ _ _ _ _ w.drew
  generalize w.drew = w2 at *
  go_wp2_with fail
  refine (dwrite_any h D (a + o) S _ b _ HD.out HOK.out hi HV.out hbl (by omega)).mono ?_
  rintro e w1 ⟨rfl, h', h1, h2⟩
  go_wp2_with fail
  go_ret
  exact ⟨rfl, h', h1, HB.out.trans h2⟩
end Go.Proofs.YtildohndbeagaaaGreatDoor

namespace Go.Proofs.YtildohndbeagaaaGreatDoor
open Go Go.RowKit
set_option linter.unusedVariables false

/-- Behind i of the steps. -/
def dAt (D : Dsk) (x : Int) (b : List UInt8) : Nat → Dsk
  | 0 => D
  | 1 => D.free x
  | 2 => (D.free x).sync
  | 3 => (D.free x).sync.write x b
  | _ => ((D.free x).sync.write x b).sync
theorem dAt_ok {D : Dsk} (h : D.Ok) (x : Int) (b : List UInt8) : ∀ i, (dAt D x b i).Ok
  | 0 => h
  | 1 => h.free x
  | 2 => (h.free x).sync
  | 3 => (h.free x).sync.write x b
  | _ + 4 => ((h.free x).sync.write x b).sync
theorem free_pend (D : Dsk) (x : Int) : (D.free x).pend.length ≤ D.pend.length + 1 := by
  unfold Dsk.free
  split
  · simp [Dsk.put]
  · omega
theorem write_pend (D : Dsk) (x : Int) (b : List UInt8) : (D.write x b).pend.length ≤ D.pend.length + 1 := by
  unfold Dsk.write
  split
  · simp [Dsk.put]
  · omega
theorem dAt_pend (D : Dsk) (x : Int) (b : List UInt8) : ∀ i, (dAt D x b i).pend.length ≤ D.pend.length + 1
  | 0 => Nat.le_succ _
  | 1 => free_pend D x
  | 2 => Nat.zero_le _
  | 3 => by have := write_pend (D.free x).sync x b; have e : (D.free x).sync.pend.length = 0 := rfl; show ((D.free x).sync.write x b).pend.length ≤ _; omega
  | _ + 4 => Nat.zero_le _
section
variable {D : Dsk} {a : Int} {num : Nat} {last : Int} {body : List UInt8} {k : Int}
theorem mtSteps_long (h : 480 < body.length) : mtSteps D a num last body k = ⟨D, num, last, false, 120⟩ := by unfold mtSteps; rw [if_pos h]
theorem mtSteps_stop {i : Nat} (h : ¬ 480 < body.length) (h3 : i ≤ 3) (hk : k ≤ (i : Int)) (hi : i = 0 ∨ (i : Int) ≤ k) (hw : 3 ≤ i → (dAt D (a + (1 - last)) (recB ((num + 1) % U64) body) 2).why (a + (1 - last)) (recB ((num + 1) % U64) body) = 0) :
    mtSteps D a num last body k = ⟨dAt D (a + (1 - last)) (recB ((num + 1) % U64) body) i, num, last, false, 0⟩ := by
  unfold mtSteps
  rw [if_neg h]
  match i, h3 with
  | 0, _ => rw [if_pos (by omega)]; rfl
  | 1, _ => rw [if_neg (by omega), if_pos (by omega)]; rfl
  | 2, _ => rw [if_neg (by omega), if_neg (by omega), if_pos (by omega)]; rfl
  | 3, _ => rw [if_neg (by omega), if_neg (by omega), if_neg (by omega), if_neg (fun h => h (hw (by omega))), if_pos (by omega)]; rfl
theorem mtSteps_err (h : ¬ 480 < body.length) (hk : 2 < k) (hw : (dAt D (a + (1 - last)) (recB ((num + 1) % U64) body) 2).why (a + (1 - last)) (recB ((num + 1) % U64) body) ≠ 0) :
    mtSteps D a num last body k = ⟨dAt D (a + (1 - last)) (recB ((num + 1) % U64) body) 2, num, last, false, (dAt D (a + (1 - last)) (recB ((num + 1) % U64) body) 2).why (a + (1 - last)) (recB ((num + 1) % U64) body)⟩ := by
  unfold mtSteps
  rw [if_neg h, if_neg (by omega), if_neg (by omega), if_neg (by omega)]
  exact if_pos hw
theorem mtSteps_done (h : ¬ 480 < body.length) (hk : 3 < k) (hw : (dAt D (a + (1 - last)) (recB ((num + 1) % U64) body) 2).why (a + (1 - last)) (recB ((num + 1) % U64) body) = 0) :
    mtSteps D a num last body k = ⟨dAt D (a + (1 - last)) (recB ((num + 1) % U64) body) 4, (num + 1) % U64, 1 - last, true, 0⟩ := by
  unfold mtSteps
  rw [if_neg h, if_neg (by omega), if_neg (by omega), if_neg (by omega), if_neg (fun h => h hw), if_neg (by omega)]
  rfl
end
/-- A block of yet another kind turned. -/
theorem Dk.other {w w' : World} {h : Zn} {D : Dsk} (d : Dk w h D) {z : Nat} {t : TypeId} (hz : kindAt w z = some (some t)) (ht : t ∉ [75, 113, 3, 68, 5]) (hg : w.grownBy w' (some z)) : Dk w' h D := by
  simp only [List.mem_cons, List.not_mem_nil, or_false, not_or] at ht
  obtain ⟨t1, t2, t3, t4, t5⟩ := ht
  obtain ⟨vs, h1, h2⟩ := d.pend
  have ne : ∀ {b : Nat} {k : Option TypeId}, kindAt w b = some k → k ≠ some t → b ≠ z := fun hb hk e => by subst e; rw [hz] at hb; injection hb with hb; exact hk hb.symm
  refine ⟨d.blk.grown hg (fun e => ?_), d.view.other (ne d.view.kind (by simp)) (by rw [hz]; simpa using t5) hg, d.ground.other (ne d.ground.kind (by simp)) (by rw [hz]; simpa using t5) hg, d.ne, vs, h1.other (fun e => ?_) hg, h2.keep fun v p hp => hp.other (fun s hs => ?_) hg⟩
  · injection e with e
    subst e
    have := kind_blk d.blk
    rw [hz] at this
    injection this with this
    injection this with this
    exact t1 this
  · have := kind_own h1 e
    rw [hz] at this
    injection this with this
    injection this with this
    exact t2 this
  · rw [hz]
    intro e
    injection e with e
    injection e with e
    subst e
    simp only [pnKinds, List.mem_cons, List.not_mem_nil, or_false] at hs
    rcases hs with h | h | h
    · exact t3 h
    · exact t4 h
    · exact t5 h
/-- A call on the meta page: the disk, the page's own block. -/
structure Mtp (h : Zn) (gm : Nat) (w : World) (h' : Zn) (w' : World) : Prop where
  g : h'.g = h.g
  turn : Turn (fun b => h.has b ∨ b = gm) w w'
  has : ∀ b, h'.has b → h.has b ∨ w.heap.size ≤ b
theorem Mtp.of_stp {h h' : Zn} {g : Nat} {w w' : World} (s : Stp h w h' w') : Mtp h g w h' w' := ⟨s.g, s.turn.mono fun b hb _ => .inl hb, s.has⟩
def MsPost (h : Zn) (D : Dsk) (g : Nat) (a : Int) (num : Nat) (last : Int) (body : List UInt8) (k : Int) (w : World) (e : Ending) (w' : World) : Prop :=
  e = .returned (.tuple #[.bool (mtSteps D a num last body k).done, .int .i64 ((mtSteps D a num last body k).err : Nat)]) ∧
    ∃ h', Dk w' h' (mtSteps D a num last body k).D ∧ Mk w' g h' a (mtSteps D a num last body k).num (mtSteps D a num last body k).last ∧ Mtp h g w h' w'
theorem ms_fin {h h' : Zn} {D : Dsk} {g : Nat} {a : Int} {num : Nat} {last : Int} {body : List UInt8} {k : Int} {w w' : World} {s : MtSt} {ok : Bool} {ev : Int} (hs : mtSteps D a num last body k = s) (hd : Dk w' h' s.D) (hm : Mk w' g h' a s.num s.last) (ht : Mtp h g w h' w') (ho : ok = s.done) (he : ev = (s.err : Nat)) :
    MsPost h D g a num last body k w (.returned (.tuple #[.bool ok, .int .i64 ev])) w' := by
  subst hs ho he
  exact ⟨rfl, h', hd, hm, ht⟩
theorem Mk.stp {w w' : World} {g : Nat} {h h' : Zn} {D : Dsk} {a : Int} {num : Nat} {last : Int} (m : Mk w g h a num last) (d : Dk w h D) (s : Stp h w h' w') : Mk w' g h' a num last := by
  refine ⟨?_⟩
  rw [s.g]
  exact s.blk d m.blk (by decide) (by decide)
theorem Mk.later {w w' : World} {g : Nat} {h : Zn} {a : Int} {num : Nat} {last : Int} (m : Mk w g h a num last) (hb : Below w.heap.size w w') : Mk w' g h a num last := ⟨m.blk.later hb⟩
/-- The last stores. -/
theorem ms_done {h h' : Zn} {D' : Dsk} {g : Nat} {a : Int} {num num' : Nat} {last last' : Int} {w w' : World} (hd : Dk w' h' D') (hm : Mk w' g h' a num last) (ht : Mtp h g w h' w') (n : Nat) :
    Dk (((w'.drewN n).setCell ⟨g, 2, none⟩ (.int .u64 (num' : Int))).setCell ⟨g, 3, none⟩ (.int .i64 last')) h' D' ∧ Mk (((w'.drewN n).setCell ⟨g, 2, none⟩ (.int .u64 (num' : Int))).setCell ⟨g, 3, none⟩ (.int .i64 last')) g h' a num' last' ∧
      Mtp h g w h' (((w'.drewN n).setCell ⟨g, 2, none⟩ (.int .u64 (num' : Int))).setCell ⟨g, 3, none⟩ (.int .i64 last')) := by
  have q := below_drewN (Below.refl w'.heap.size w') n
  have hd1 := hd.later q
  have hm1 := hm.later q
  have b1 := hm1.blk.put 2 (.int .u64 (num' : Int))
  refine ⟨(hd1.other (kind_blk hm1.blk) (by decide) (grown_cell _)).other (kind_blk b1) (by decide) (grown_cell _), ⟨b1.put 3 (.int .i64 last')⟩, ht.g, ?_, ht.has⟩
  exact ((ht.turn.trans (F' := fun _ => False) (Turn.of_below q) (fun _ h => h.elim)).setCell (p := ⟨g, 2, none⟩) (.inl (.inr rfl)) _).setCell (p := ⟨g, 3, none⟩) (.inl (.inr rfl)) _

set_option maxHeartbeats 4000000 in
set_option maxRecDepth 100000 in
theorem msteps_any (h : Zn) (D : Dsk) (g : Nat) (a : Int) (num : Nat) (last : Int) (body : List UInt8) (k : Int) (w : World) (hd : Dk w h D) (hok : D.Ok) (hlen : D.pend.length ≤ 900000) (hm : Mk w g h a num last) (h0 : 0 ≤ a) (h1 : a ≤ 65534) (hl0 : 0 ≤ last) (hl1 : last ≤ 1)
    (hnum : num < U64) (hbits : BitsOk w) (hk : InI k) :
    Calls Tryz.prog 32 #[.pointer (some ⟨g, 0, none⟩), .string (st body), .int .i64 k] w (MsPost h D g a num last body k w) := by
  have HD := Lib.hid hd
  have HOK := Lib.hid hok
  have HM := Lib.hid hm
  have HBI := Lib.hid hbits
  have HNU := Lib.hid hnum
  have m2 : w.cell? ⟨g, 2, none⟩ = some (.int .u64 (num : Int)) := hm.blk.cell 2
  have m3 : w.cell? ⟨g, 3, none⟩ = some (.int .i64 last) := hm.blk.cell 3
  have hgl := hm.blk.lt
  by_cases hlong : 480 < body.length
  · have qa : Below w.heap.size w (w.alloc (.cells #[.pointer (some ⟨g, 0, none⟩)] 39)) := (Below.refl _ _).alloc (Nat.le_refl _) _
    clear hd hok hm hbits hnum m2 m3
    go_enter Tryz.func32, Tryz.ntmps32
    go_wp2_with fail
    go_ret2
    exact ms_fin (mtSteps_long hlong) (HD.out.later qa) (HM.out.later qa) (Mtp.of_stp (Stp.below qa)) rfl rfl
  · have hwr : IntKind.u64.wrap ((num : Int) + 1) = (((num + 1) % U64 : Nat) : Int) := by
      rw [IntKind.wrap_u64]; unfold U64; omega
    have hqn : (num + 1) % U64 < U64 := Nat.mod_lt _ (by unfold U64; omega)
    obtain ⟨q, hq⟩ : ∃ q, (num + 1) % U64 = q := ⟨_, rfl⟩
    have HQ := Lib.hid hq
    rw [hq] at hwr hqn
    have HQN := Lib.hid hqn
    have q0 : Below w.heap.size w ((w.alloc (.cells #[.pointer (some ⟨g, 0, none⟩)] 39)).alloc (.cells #[.int .i64 (1 - last)] 3)) := ((Below.refl _ _).alloc (Nat.le_refl _) _).alloc (by simp) _
    have B0 := Lib.hid ((Blk.new w 39 #[.pointer (some ⟨g, 0, none⟩)]).alloc (.cells #[.int .i64 (1 - last)] 3))
    have B1 := Blk.new (w.alloc (.cells #[.pointer (some ⟨g, 0, none⟩)] 39)) 3 #[.int .i64 (1 - last)]
    rw [show (w.alloc (.cells #[.pointer (some ⟨g, 0, none⟩)] 39)).heap.size = w.heap.size + 1 by simp] at B1
    have HB1 := Lib.hid B1
    have HQ0 := Lib.hid q0
    have hl01 : 0 ≤ 1 - last := by omega
    have hl02 : 1 - last ≤ 1 := by omega
    clear hd hok hm hbits hnum hq hqn B1 q0
    go_enter Tryz.func32, Tryz.ntmps32
    go_wp2_with fail
    refine (rput_any q body _ HQN.out (HBI.out.later HQ0.out) (by omega)).mono ?_
    rintro e w1 ⟨hp1, -, hb1⟩
    obtain ⟨A, k1, c, rfl, hob⟩ := hp1 (by omega)
    obtain rfl := hob.len
    have HOB := Lib.hid hob
    have HB := Lib.hid hb1
    clear hp1 hob hb1
    have q1 := (HQ0.out.trans (HB.out.mono HQ0.out.size))
    have hsz1 : w.heap.size + 1 < w1.heap.size := by have := HB.out.size; simp at this; omega
    have q3 : Below w.heap.size w ((w1.alloc (.cells #[.slice A (recB q body).length c] 68)).alloc (.cells #[.func (Fn.func 60) #[] #[.pointer (some ⟨w.heap.size, 0, none⟩), .pointer (some ⟨w.heap.size + 1, 0, none⟩)], .func (Fn.func 59) #[] #[.pointer (some ⟨w.heap.size, 0, none⟩)], .func (Fn.func 62) #[] #[.pointer (some ⟨w.heap.size, 0, none⟩), .pointer (some ⟨w.heap.size + 1, 0, none⟩), .pointer (some ⟨w1.heap.size, 0, none⟩)], .func (Fn.func 59) #[] #[.pointer (some ⟨w.heap.size, 0, none⟩)]] 126)) :=
      (q1.alloc q1.size _).alloc (by simp; omega) _
    have qw1 : Below w1.heap.size w1 ((w1.alloc (.cells #[.slice A (recB q body).length c] 68)).alloc (.cells #[.func (Fn.func 60) #[] #[.pointer (some ⟨w.heap.size, 0, none⟩), .pointer (some ⟨w.heap.size + 1, 0, none⟩)], .func (Fn.func 59) #[] #[.pointer (some ⟨w.heap.size, 0, none⟩)], .func (Fn.func 62) #[] #[.pointer (some ⟨w.heap.size, 0, none⟩), .pointer (some ⟨w.heap.size + 1, 0, none⟩), .pointer (some ⟨w1.heap.size, 0, none⟩)], .func (Fn.func 59) #[] #[.pointer (some ⟨w.heap.size, 0, none⟩)]] 126)) :=
      ((Below.refl _ _).alloc (Nat.le_refl _) _).alloc (by simp) _
    have a1 := Blk.new (w1.alloc (.cells #[.slice A (recB q body).length c] 68)) 126 #[.func (Fn.func 60) #[] #[.pointer (some ⟨w.heap.size, 0, none⟩), .pointer (some ⟨w.heap.size + 1, 0, none⟩)], .func (Fn.func 59) #[] #[.pointer (some ⟨w.heap.size, 0, none⟩)], .func (Fn.func 62) #[] #[.pointer (some ⟨w.heap.size, 0, none⟩), .pointer (some ⟨w.heap.size + 1, 0, none⟩), .pointer (some ⟨w1.heap.size, 0, none⟩)], .func (Fn.func 59) #[] #[.pointer (some ⟨w.heap.size, 0, none⟩)]]
    rw [show (w1.alloc (.cells #[.slice A (recB q body).length c] 68)).heap.size = w1.heap.size + 1 by simp] at a1
    have a2 := (Blk.new w1 68 #[.slice A (recB q body).length c]).alloc (.cells #[.func (Fn.func 60) #[] #[.pointer (some ⟨w.heap.size, 0, none⟩), .pointer (some ⟨w.heap.size + 1, 0, none⟩)], .func (Fn.func 59) #[] #[.pointer (some ⟨w.heap.size, 0, none⟩)], .func (Fn.func 62) #[] #[.pointer (some ⟨w.heap.size, 0, none⟩), .pointer (some ⟨w.heap.size + 1, 0, none⟩), .pointer (some ⟨w1.heap.size, 0, none⟩)], .func (Fn.func 59) #[] #[.pointer (some ⟨w.heap.size, 0, none⟩)]] 126)
    have HA1 := Lib.hid a1
    have HA2 := Lib.hid a2
    have HP0 := Lib.hid ((B0.out.later HB.out).later qw1)
    have HP1 := Lib.hid ((HB1.out.later HB.out).later qw1)
    have HUB := Lib.hid ((Ub.of_own HOB.out).later qw1)
    have HQ3 := Lib.hid q3
    clear q1 a1 a2 qw1 q3
    go_wp2_with fail
    generalize hW : (w1.alloc _).alloc _ = W at *
    clear hW
    have HDW := Lib.hid (HD.out.later HQ3.out)
    have HMW := Lib.hid (HM.out.later HQ3.out)
    go_loopw [40] (fun iv wr => ∃ (i : Nat) (h' : Zn), iv = .int .i64 (i : Int) ∧ i ≤ 4 ∧ (i = 0 ∨ (i : Int) ≤ k) ∧ Hid (3 ≤ i → (dAt D (a + (1 - last)) (recB q body) 2).why (a + (1 - last)) (recB q body) = 0) ∧ Hid (Dk wr h' (dAt D (a + (1 - last)) (recB q body) i)) ∧ Hid (Stp h W h' wr)) (fun iv _ => 4 - (intOf iv).toNat)
    case atStart => exact ⟨0, h, rfl, by omega, .inl rfl, fun h => absurd h (by omega), HDW, Stp.refl _ _⟩
    obtain ⟨i, h', rfl, hi4, hik, HWY, hd0, hs0⟩ := hrel
    have HAR := Lib.hid (hs0.out.blk HDW.out HA1.out (by decide) (by decide))
    have hp0 := Lib.hid (hs0.out.blk HDW.out HP0.out (by decide) (by decide))
    have hp1 := Lib.hid (hs0.out.blk HDW.out HP1.out (by decide) (by decide))
    have hp2 := Lib.hid (hs0.out.blk HDW.out HA2.out (by decide) (by decide))
    have HUR := Lib.hid ((hs0.out.ub HDW.out HUB.out).bs)
    have HMR := Lib.hid (HMW.out.stp HDW.out hs0.out)
    have hrl : (recB q body).length ≤ 1099511627776 := by have := recB_len q body; have := recF_len HQN.out (t := body) (by omega); omega
    clear m2 m3
    rcases i with _ | _ | _ | _ | i
    · have ca : wr.cell? ⟨w1.heap.size + 1, 0, none⟩ = some (.func (Fn.func 60) #[] #[.pointer (some ⟨w.heap.size, 0, none⟩), .pointer (some ⟨w.heap.size + 1, 0, none⟩)]) := HAR.out.cell 0
      by_cases hki : k ≤ 0
      · go_wp2_with fail
        go_ret2
        exact ms_fin (mtSteps_stop (i := 0) hlong (by omega) (by omega) (by omega) (by rw [HQ.out]; exact HWY.out)) (by rw [HQ.out]; exact hd0.out) HMR.out (Mtp.of_stp ((Stp.below HQ3.out).trans hs0.out)) rfl rfl
      go_wp2_with fail
      refine (mclos2_any h' (dAt D (a + (1 - last)) (recB q body) 0) g w.heap.size (w.heap.size + 1) a (1 - last) num last wr hd0.out (dAt_ok HOK.out _ _ 0) (by have := dAt_pend D (a + (1 - last)) (recB q body) 0; omega) HMR.out h0 h1 hl01 hl02 hp0.out hp1.out).mono ?_
      rintro e w4 ⟨rfl, h4, hd4, hs4⟩
      have hdw : Hid (Dk w4 h4 (dAt D (a + (1 - last)) (recB q body) 1)) := hd4
      have hsw := Lib.hid (hs0.out.trans hs4)
      clear hd4 hs4
      go_wp2_with fail
      go_roundw
      case rel => exact ⟨1, h4, rfl, by omega, by omega, fun h => absurd h (by omega), hdw, hsw⟩
      case measure => simp [intOf]
    · have ca : wr.cell? ⟨w1.heap.size + 1, 1, none⟩ = some (.func (Fn.func 59) #[] #[.pointer (some ⟨w.heap.size, 0, none⟩)]) := HAR.out.cell 1
      by_cases hki : k ≤ 1
      · go_wp2_with fail
        go_ret2
        exact ms_fin (mtSteps_stop (i := 1) hlong (by omega) (by omega) (by omega) (by rw [HQ.out]; exact HWY.out)) (by rw [HQ.out]; exact hd0.out) HMR.out (Mtp.of_stp ((Stp.below HQ3.out).trans hs0.out)) rfl rfl
      go_wp2_with fail
      refine (mclos1_any h' (dAt D (a + (1 - last)) (recB q body) 1) g w.heap.size a num last wr hd0.out (dAt_ok HOK.out _ _ 1) HMR.out hp0.out).mono ?_
      rintro e w4 ⟨rfl, h4, hd4, hs4⟩
      have hdw : Hid (Dk w4 h4 (dAt D (a + (1 - last)) (recB q body) 2)) := hd4
      have hsw := Lib.hid (hs0.out.trans hs4)
      clear hd4 hs4
      go_wp2_with fail
      go_roundw
      case rel => exact ⟨2, h4, rfl, by omega, by omega, fun h => absurd h (by omega), hdw, hsw⟩
      case measure => simp [intOf]
    · have ca : wr.cell? ⟨w1.heap.size + 1, 2, none⟩ = some (.func (Fn.func 62) #[] #[.pointer (some ⟨w.heap.size, 0, none⟩), .pointer (some ⟨w.heap.size + 1, 0, none⟩), .pointer (some ⟨w1.heap.size, 0, none⟩)]) := HAR.out.cell 2
      by_cases hki : k ≤ 2
      · go_wp2_with fail
        go_ret2
        exact ms_fin (mtSteps_stop (i := 2) hlong (by omega) (by omega) (by omega) (by rw [HQ.out]; exact HWY.out)) (by rw [HQ.out]; exact hd0.out) HMR.out (Mtp.of_stp ((Stp.below HQ3.out).trans hs0.out)) rfl rfl
      by_cases hwy : (dAt D (a + (1 - last)) (recB q body) 2).why (a + (1 - last)) (recB q body) = 0
      · have HW0 := Lib.hid hwy
        go_wp2_with fail
        refine (mclos3_any h' (dAt D (a + (1 - last)) (recB q body) 2) g w.heap.size (w.heap.size + 1) w1.heap.size a (1 - last) num last _ _ (recB q body) wr hd0.out (dAt_ok HOK.out _ _ 2) (by have := dAt_pend D (a + (1 - last)) (recB q body) 2; omega) HMR.out h0 h1 hl01 hl02 hp0.out hp1.out hp2.out HUR.out hrl).mono ?_
        rw [HW0.out]
        rintro e w4 ⟨rfl, h4, hd4, hs4⟩
        have hdw : Hid (Dk w4 h4 (dAt D (a + (1 - last)) (recB q body) 3)) := hd4
        have hsw := Lib.hid (hs0.out.trans hs4)
        clear hd4 hs4 hwy
        go_wp2_with fail
        go_roundw
        case rel => exact ⟨3, h4, rfl, by omega, by omega, fun _ => HW0.out, hdw, hsw⟩
        case measure => simp [intOf]
      · have HW0 := Lib.hid hwy
        obtain ⟨y, hy⟩ : ∃ y, (dAt D (a + (1 - last)) (recB q body) 2).why (a + (1 - last)) (recB q body) = y := ⟨_, rfl⟩
        have HYY := Lib.hid hy
        have hyb : ((y : Int) != 0) = true := by rw [hy] at hwy; simp; omega
        clear hwy hy
        go_wp2_with fail
        refine (mclos3_any h' (dAt D (a + (1 - last)) (recB q body) 2) g w.heap.size (w.heap.size + 1) w1.heap.size a (1 - last) num last _ _ (recB q body) wr hd0.out (dAt_ok HOK.out _ _ 2) (by have := dAt_pend D (a + (1 - last)) (recB q body) 2; omega) HMR.out h0 h1 hl01 hl02 hp0.out hp1.out hp2.out HUR.out hrl).mono ?_
        rw [HYY.out]
        rintro e w4 ⟨rfl, h4, hd4, hs4⟩
        have hdw : Hid (Dk w4 h4 (dAt D (a + (1 - last)) (recB q body) 2)) := by
          have e : (dAt D (a + (1 - last)) (recB q body) 2).write (a + (1 - last)) (recB q body) = dAt D (a + (1 - last)) (recB q body) 2 := by unfold Dsk.write; rw [if_neg HW0.out]
          rw [e] at hd4
          exact hd4
        have hsw := Lib.hid (hs0.out.trans hs4)
        have HM4 := Lib.hid (HMR.out.stp hd0.out hs4)
        clear hd4 hs4
        go_wp2_with fail
        go_ret2
        exact ms_fin (mtSteps_err hlong (by omega) (by rw [HQ.out]; exact HW0.out)) (by rw [HQ.out]; exact hdw.out) HM4.out (Mtp.of_stp ((Stp.below HQ3.out).trans hsw.out)) rfl (by rw [HQ.out, HYY.out])
    · have ca : wr.cell? ⟨w1.heap.size + 1, 3, none⟩ = some (.func (Fn.func 59) #[] #[.pointer (some ⟨w.heap.size, 0, none⟩)]) := HAR.out.cell 3
      by_cases hki : k ≤ 3
      · go_wp2_with fail
        go_ret2
        exact ms_fin (mtSteps_stop (i := 3) hlong (by omega) (by omega) (by omega) (by rw [HQ.out]; exact HWY.out)) (by rw [HQ.out]; exact hd0.out) HMR.out (Mtp.of_stp ((Stp.below HQ3.out).trans hs0.out)) rfl rfl
      go_wp2_with fail
      refine (mclos1_any h' (dAt D (a + (1 - last)) (recB q body) 3) g w.heap.size a num last wr hd0.out (dAt_ok HOK.out _ _ 3) HMR.out hp0.out).mono ?_
      rintro e w4 ⟨rfl, h4, hd4, hs4⟩
      have hdw : Hid (Dk w4 h4 (dAt D (a + (1 - last)) (recB q body) 4)) := hd4
      have hsw := Lib.hid (hs0.out.trans hs4)
      clear hd4 hs4
      go_wp2_with fail
      go_roundw
      case rel => exact ⟨4, h4, rfl, by omega, by omega, fun _ => HWY.out (by omega), hdw, hsw⟩
      case measure => simp [intOf]
    · obtain rfl : i = 0 := by omega
      have s3 : wr.cell? ⟨w.heap.size + 1, 0, none⟩ = some (.int .i64 (1 - last)) := hp1.out.cell 0
      have s2 : wr.cell? ⟨w.heap.size, 0, none⟩ = some (.pointer (some ⟨g, 0, none⟩)) := hp0.out.cell 0
      have m0 : (wr).cell? ⟨g, 0, none⟩ = some (.pointer (some ⟨h'.g, 0, none⟩)) := HMR.out.blk.cell 0
      have m1 : (wr).cell? ⟨g, 1, none⟩ = some (.int .i64 a) := HMR.out.blk.cell 1
      have m2 : (wr).cell? ⟨g, 2, none⟩ = some (.int .u64 (num : Int)) := HMR.out.blk.cell 2
      have m3 : (wr).cell? ⟨g, 3, none⟩ = some (.int .i64 last) := HMR.out.blk.cell 3
      have mf0 : (wr).frozen? ⟨g, 0, none⟩ = false := HMR.out.blk.free 0
      have mf1 : (wr).frozen? ⟨g, 1, none⟩ = false := HMR.out.blk.free 1
      have mf2 : (wr).frozen? ⟨g, 2, none⟩ = false := HMR.out.blk.free 2
      have mf3 : (wr).frozen? ⟨g, 3, none⟩ = false := HMR.out.blk.free 3
      go_wp2_with fail
      go_region
      go_wp2_with fail
      go_ret2
      have HF := ms_done hd0.out HMR.out (Mtp.of_stp (g := g) ((Stp.below HQ3.out).trans hs0.out)) 1 (num' := q) (last' := 1 - last)
      exact ms_fin (mtSteps_done hlong (by omega) (by rw [HQ.out]; exact HWY.out (by omega))) (by rw [HQ.out]; exact HF.1) (by rw [HQ.out]; exact HF.2.1) HF.2.2 rfl rfl
end Go.Proofs.YtildohndbeagaaaGreatDoor

namespace Go.Proofs.YtildohndbeagaaaGreatDoor
open Go
set_option linter.unusedVariables false

theorem tellsB_pos {s : List UInt8} {q : Nat} {t : List UInt8} (h : tellsB s = some (q, t)) : 0 < q := by
  unfold tellsB at h
  split at h
  · split at h
    · rename_i hc
      injection h with h
      injection h with h1 h2
      omega
    · cases h
  · cases h
theorem tellsO_pos {o : Option (List UInt8)} {q : Nat} {t : List UInt8} (h : tellsO o = some (q, t)) : 0 < q := by
  cases o with
  | none => cases h
  | some s => exact tellsB_pos h
theorem tells_rec {q : Nat} {t : List UInt8} (hq : q < U64) (hq0 : 0 < q) (ht : t.length ≤ 32768) : tellsB (recB q t) = some (q, t) := by
  have := recGet_put hq ht []
  rw [List.append_nil] at this
  unfold tellsB
  rw [this]
  exact if_pos ⟨rfl, hq0⟩
theorem tells_torn {q : Nat} {t : List UInt8} (hq : q < U64) (hq0 : 0 < q) (ht : t.length ≤ 32768) (n : Int) : tellsB (tornB (recB q t) [] n) = none ∨ tornB (recB q t) [] n = recB q t := by
  unfold tornB
  by_cases h : n.toNat < (recB q t).length
  · left
    rw [if_pos h, List.drop_nil, List.append_nil]
    unfold tellsB
    rw [recGet_cut hq ht h]
  · right
    rw [if_neg h]
theorem recB_short {q : Nat} {t : List UInt8} (hq : q < U64) (ht : t.length ≤ 480) : (recB q t).length ≤ 512 := by
  have h1 := varB_le10 hq
  have h2 := varB_le 1 t.length (by omega)
  rw [recB_len]
  unfold recF
  rw [List.length_append, List.length_append]
  omega

/-- What the page tells: two sectors alone are in use. -/
structure Mi (f : SF) (a : Int) (num : Nat) (last : Int) (body : List UInt8) : Prop where
  only : ∀ x, (f x).isSome = true → x = a ∨ x = a + 1
  l01 : last = 0 ∨ last = 1
  zero : num = 0 → last = 1 ∧ body = [] ∧ tellsO (f (a + last)) = none ∧ tellsO (f (a + (1 - last))) = none
  pos : 0 < num → tellsO (f (a + last)) = some (num, body) ∧ ∀ q t, tellsO (f (a + (1 - last))) = some (q, t) → q < num
section
variable {f : SF} {a : Int} {num : Nat} {last : Int} {body : List UInt8}
theorem Mi.start (a : Int) : Mi (fun _ => none) a 0 1 [] := ⟨fun _ h => (by cases h), .inr rfl, fun _ => ⟨rfl, rfl, rfl, rfl⟩, fun h => absurd h (by omega)⟩
theorem Mi.open (h : Mi f a num last body) : mtOpen f a = (num, last, body) := by
  rw [mtOpen_eq, mtUp, mtUp, mtUp, mtStep_eq, mtStep_eq]
  rw [show a + ((0 : Nat) : Int) = a + 0 by simp, show a + ((0 + 1 : Nat) : Int) = a + 1 by simp]
  rcases Nat.eq_zero_or_pos num with h0 | h0
  · obtain ⟨rfl, rfl, h1, h2⟩ := h.zero h0
    rw [show a + (1 - 1 : Int) = a + 0 by omega] at h2
    rw [h1, h2]
    subst h0
    rfl
  · obtain ⟨h1, h2⟩ := h.pos h0
    rcases h.l01 with rfl | rfl
    · rw [show a + (1 - 0 : Int) = a + 1 by omega] at h2
      rw [h1]
      simp only
      rw [if_pos h0]
      cases ht : tellsO (f (a + 1)) with
      | none => rfl
      | some y =>
        obtain ⟨q, t⟩ := y
        have := h2 q t ht
        simp only
        rw [if_neg (by omega)]
        rfl
    · rw [show a + (1 - 1 : Int) = a + 0 by omega] at h2
      rw [h1]
      cases ht : tellsO (f (a + 0)) with
      | none => simp only; rw [if_pos h0]; rfl
      | some y =>
        obtain ⟨q, t⟩ := y
        have h3 := h2 q t ht
        have h4 := tellsO_pos ht
        simp only
        rw [if_pos h4]
        simp only
        rw [if_pos h3]
        rfl
theorem ne_of_l01 (h : last = 0 ∨ last = 1) : a + last ≠ a + (1 - last) := by omega
theorem Mi.del (h : Mi f a num last body) : Mi (f.del (a + (1 - last))) a num last body := by
  have hne := ne_of_l01 (a := a) h.l01
  have e1 : (f.del (a + (1 - last))) (a + last) = f (a + last) := if_neg hne
  have e2 : (f.del (a + (1 - last))) (a + (1 - last)) = none := if_pos rfl
  refine ⟨fun x hx => ?_, h.l01, fun h0 => ?_, fun h0 => ?_⟩
  · unfold SF.del at hx
    split at hx
    · cases hx
    · exact h.only x hx
  · obtain ⟨h1, h2, h3, h4⟩ := h.zero h0
    rw [e1, e2]
    exact ⟨h1, h2, h3, rfl⟩
  · rw [e1, e2]
    exact ⟨(h.pos h0).1, fun q t hq => by cases hq⟩
theorem Mi.put_only (h : Mi f a num last body) (b : List UInt8) : ∀ x, ((f.put (a + (1 - last)) b) x).isSome = true → x = a ∨ x = a + 1 := by
  intro x hx
  unfold SF.put at hx
  split at hx
  · have := h.l01; omega
  · exact h.only x hx
theorem Mi.put_none (h : Mi f a num last body) {b : List UInt8} (hb : tellsB b = none) : Mi (f.put (a + (1 - last)) b) a num last body := by
  have hne := ne_of_l01 (a := a) h.l01
  have e1 : (f.put (a + (1 - last)) b) (a + last) = f (a + last) := if_neg hne
  have e2 : (f.put (a + (1 - last)) b) (a + (1 - last)) = some b := if_pos rfl
  refine ⟨h.put_only b, h.l01, fun h0 => ?_, fun h0 => ?_⟩
  · obtain ⟨h1, h2, h3, h4⟩ := h.zero h0
    rw [e1, e2]
    exact ⟨h1, h2, h3, hb⟩
  · rw [e1, e2]
    exact ⟨(h.pos h0).1, fun q t hq => by have : tellsO (some b) = none := hb; rw [this] at hq; cases hq⟩
theorem Mi.put_new (h : Mi f a num last body) {b t : List UInt8} (hb : tellsB b = some (num + 1, t)) : Mi (f.put (a + (1 - last)) b) a (num + 1) (1 - last) t := by
  have hne := ne_of_l01 (a := a) h.l01
  have e1 : (f.put (a + (1 - last)) b) (a + last) = f (a + last) := if_neg hne
  have e2 : (f.put (a + (1 - last)) b) (a + (1 - last)) = some b := if_pos rfl
  refine ⟨h.put_only b, by have := h.l01; omega, fun h0 => by omega, fun _ => ?_⟩
  rw [show 1 - (1 - last) = last by omega, e1, e2]
  refine ⟨hb, fun q t' hq => ?_⟩
  rcases Nat.eq_zero_or_pos num with h0 | h0
  · rw [(h.zero h0).2.2.1] at hq; cases hq
  · rw [(h.pos h0).1] at hq
    injection hq with hq
    injection hq with hq
    omega
end
theorem two_le {p q : Int} : ∀ (l : List Int), l.Nodup → (∀ x ∈ l, x = p ∨ x = q) → l.length ≤ 2
  | [], _, _ => by simp
  | [_], _, _ => by simp
  | [_, _], _, _ => by simp
  | x :: y :: z :: r, hn, h => by
    have h1 := h x (by simp)
    have h2 := h y (by simp)
    have h3 := h z (by simp)
    simp only [List.nodup_cons, List.mem_cons, not_or] at hn
    omega
theorem FinK.two {f : SF} {n : Nat} (h : FinK f n) {a : Int} (ho : ∀ x, (f x).isSome = true → x = a ∨ x = a + 1) : n ≤ 2 := by
  obtain ⟨l, h1, _⟩ := h
  have := two_le (l.map (·.1)) h1.nodup fun x hx => ho x ((h1.has x).2 hx)
  rw [List.length_map, h1.len] at this
  exact this

/-- Nothing is pending. -/
structure Mr (D : Dsk) (a : Int) (num : Nat) (last : Int) (body : List UInt8) : Prop where
  pend : D.pend = []
  ground : D.ground = D.view
  ng : D.ng = D.nv
  mi : Mi D.view a num last body
  ok : D.Ok
  a0 : 0 ≤ a
  a1 : a + 1 < D.size
  lim : 2 < D.limit
section
variable {D : Dsk} {a : Int} {num : Nat} {last : Int} {body t : List UInt8}
theorem Mr.nv (h : Mr D a num last body) : D.nv ≤ 2 := h.ok.view.two h.mi.only
theorem Mr.start {n : Int} (hn : 3 ≤ n) (hn2 : n ≤ 65536) (h0 : 0 ≤ a) (h1 : a + 1 < n) : Mr (Dsk.new n) a 0 1 [] := ⟨rfl, rfl, rfl, Mi.start a, Dsk.Ok.new (by omega) hn2, h0, h1, by simp [Dsk.new]; omega⟩
theorem free_view (D : Dsk) (x : Int) : (D.free x).view = D.view.del x := by
  unfold Dsk.free
  split
  · rfl
  · rename_i hs
    funext y
    unfold SF.del
    split
    · subst y
      cases hv : D.view x with
      | none => rfl
      | some _ => rw [hv] at hs; simp at hs
    · rfl
theorem free_same (D : Dsk) (x : Int) : (D.free x).ground = D.ground ∧ (D.free x).ng = D.ng ∧ (D.free x).size = D.size ∧ (D.free x).limit = D.limit := by
  unfold Dsk.free
  split
  · exact ⟨rfl, rfl, rfl, rfl⟩
  · exact ⟨rfl, rfl, rfl, rfl⟩
/-- Freed and synced. -/
theorem Mr.two (h : Mr D a num last body) : Mr (D.free (a + (1 - last))).sync a num last body := by
  have hs := free_same D (a + (1 - last))
  refine ⟨rfl, rfl, rfl, ?_, (h.ok.free _).sync, h.a0, ?_, ?_⟩
  · show Mi (D.free (a + (1 - last))).view a num last body
    rw [free_view]
    exact h.mi.del
  · show a + 1 < (D.free (a + (1 - last))).size
    rw [hs.2.2.1]
    exact h.a1
  · show 2 < (D.free (a + (1 - last))).limit
    rw [hs.2.2.2]
    exact h.lim
theorem Mr.why (h : Mr D a num last body) {b : List UInt8} (hb : b.length ≤ 512) : D.why (a + (1 - last)) b = 0 := by
  unfold Dsk.why
  have h1 := h.nv
  have h2 := h.lim
  have h3 := h.a1
  have h4 := h.a0
  have h5 := h.mi.l01
  rw [if_neg (by omega), if_neg (by omega), if_neg (fun hh => by have := hh.2; omega)]
/-- What is put in the ground and the view. -/
theorem Mr.put (h : Mr D a num last body) {b : List UInt8} (hb : b.length ≤ 512) {num' : Nat} {last' : Int} (hm : Mi (D.view.put (a + (1 - last)) b) a num' last' t) {D' : Dsk} (h1 : D'.pend = []) (h2 : D'.ground = D'.view) (h3 : D'.ng = D'.nv) (h4 : D'.view = D.view.put (a + (1 - last)) b) (h5 : D'.Ok) (h6 : D'.size = D.size) (h7 : D'.limit = D.limit) : Mr D' a num' last' t :=
  ⟨h1, h2, h3, by rw [h4]; exact hm, h5, h.a0, by rw [h6]; exact h.a1, by rw [h7]; exact h.lim⟩
theorem write_view {x : Int} {b : List UInt8} (hw : D.why x b = 0) : D.write x b = D.put (.wr x b) b.length := by unfold Dsk.write; rw [if_pos hw]
theorem put_view (D : Dsk) (x : Int) (b : List UInt8) : (D.put (.wr x b) b.length).view = D.view.put x b := by
  show (doP (D.view, D.nv) (.wr x b) b.length).1 = _
  unfold doP
  simp only
  rw [tornB_all]
/-- Behind i steps, and a crash. -/
theorem Mr.crash (h : Mr D a num last body) (hn : num + 1 < U64) (ht : t.length ≤ 480) (l : List (Int × Int)) : ∀ i, i ≤ 4 →
    (i ≤ 3 ∧ Mr ((dAt D (a + (1 - last)) (recB (num + 1) t) i).crash l) a num last body) ∨ (3 ≤ i ∧ Mr ((dAt D (a + (1 - last)) (recB (num + 1) t) i).crash l) a (num + 1) (1 - last) t) := by
  have hb := recB_short hn ht
  have hx0 : (D.free (a + (1 - last))).sync.view (a + (1 - last)) = none := by
    show (D.free (a + (1 - last))).view _ = none
    rw [free_view]
    exact if_pos rfl
  have hw := h.two.why hb
  have hok := dAt_ok h.ok (a + (1 - last)) (recB (num + 1) t)
  intro i hi
  have hc := (hok i).crash l
  match i, hi with
  | 0, _ =>
    left
    refine ⟨by omega, ?_⟩
    have e : crashF l 0 (dAt D (a + (1 - last)) (recB (num + 1) t) 0).pend (D.ground, D.ng) = (D.ground, D.ng) := by
      show crashF l 0 D.pend _ = _
      rw [h.pend]; rfl
    refine ⟨rfl, rfl, rfl, ?_, hc, h.a0, h.a1, h.lim⟩
    show Mi (crashF l 0 D.pend (D.ground, D.ng)).1 a num last body
    rw [show crashF l 0 D.pend (D.ground, D.ng) = (D.ground, D.ng) from e, h.ground]
    exact h.mi
  | 1, _ =>
    left
    refine ⟨by omega, ?_⟩
    have hs := free_same D (a + (1 - last))
    refine ⟨rfl, rfl, rfl, ?_, hc, h.a0, ?_, ?_⟩
    · show Mi (crashF l 0 (D.free (a + (1 - last))).pend ((D.free (a + (1 - last))).ground, (D.free (a + (1 - last))).ng)).1 a num last body
      rw [hs.1, hs.2.1, h.ground]
      unfold Dsk.free
      split
      · show Mi (crashF l 0 (D.pend ++ [.fr (a + (1 - last))]) (D.view, D.ng)).1 a num last body
        rw [h.pend]
        show Mi (match keptN l 0 with | some n => doP (D.view, D.ng) (.fr (a + (1 - last))) n | none => (D.view, D.ng)).1 a num last body
        cases keptN l 0 with
        | none => exact h.mi
        | some n => exact h.mi.del
      · rw [h.pend]
        exact h.mi
    · show a + 1 < (D.free (a + (1 - last))).size
      rw [hs.2.2.1]; exact h.a1
    · show 2 < (D.free (a + (1 - last))).limit
      rw [hs.2.2.2]; exact h.lim
  | 2, _ =>
    left
    refine ⟨by omega, ?_⟩
    have h2 := h.two
    exact ⟨rfl, rfl, rfl, h2.mi, hc, h.a0, h2.a1, h2.lim⟩
  | 3, _ =>
    have h2 := h.two
    have hc3 : ((D.free (a + (1 - last))).sync.write (a + (1 - last)) (recB (num + 1) t)).crash l = (((D.free (a + (1 - last))).sync.put (.wr (a + (1 - last)) (recB (num + 1) t)) (recB (num + 1) t).length).crash l) := by rw [write_view hw]
    have hc' := hc
    rw [show dAt D (a + (1 - last)) (recB (num + 1) t) 3 = (D.free (a + (1 - last))).sync.write (a + (1 - last)) (recB (num + 1) t) from rfl] at hc' ⊢
    rw [hc3] at hc' ⊢
    have hgr : crashF l 0 ((D.free (a + (1 - last))).sync.put (.wr (a + (1 - last)) (recB (num + 1) t)) (recB (num + 1) t).length).pend ((D.free (a + (1 - last))).sync.view, (D.free (a + (1 - last))).sync.nv) =
        match keptN l 0 with | some n => doP ((D.free (a + (1 - last))).sync.view, (D.free (a + (1 - last))).sync.nv) (.wr (a + (1 - last)) (recB (num + 1) t)) n | none => ((D.free (a + (1 - last))).sync.view, (D.free (a + (1 - last))).sync.nv) := rfl
    cases hk : keptN l 0 with
    | none =>
      rw [hk] at hgr
      left
      refine ⟨by omega, rfl, rfl, rfl, ?_, hc', h.a0, h2.a1, h2.lim⟩
      show Mi (crashF l 0 _ _).1 a num last body
      rw [show crashF l 0 ((D.free (a + (1 - last))).sync.put (.wr (a + (1 - last)) (recB (num + 1) t)) (recB (num + 1) t).length).pend (((D.free (a + (1 - last))).sync.put (.wr (a + (1 - last)) (recB (num + 1) t)) (recB (num + 1) t).length).ground, ((D.free (a + (1 - last))).sync.put (.wr (a + (1 - last)) (recB (num + 1) t)) (recB (num + 1) t).length).ng) = _ from hgr]
      exact h2.mi
    | some n =>
      rw [hk] at hgr
      have hv : (((D.free (a + (1 - last))).sync.put (.wr (a + (1 - last)) (recB (num + 1) t)) (recB (num + 1) t).length).crash l).view = (D.free (a + (1 - last))).sync.view.put (a + (1 - last)) (tornB (recB (num + 1) t) [] n) := by
        show (crashF l 0 _ _).1 = _
        rw [show crashF l 0 ((D.free (a + (1 - last))).sync.put (.wr (a + (1 - last)) (recB (num + 1) t)) (recB (num + 1) t).length).pend (((D.free (a + (1 - last))).sync.put (.wr (a + (1 - last)) (recB (num + 1) t)) (recB (num + 1) t).length).ground, ((D.free (a + (1 - last))).sync.put (.wr (a + (1 - last)) (recB (num + 1) t)) (recB (num + 1) t).length).ng) = _ from hgr]
        unfold doP
        simp only
        rw [hx0]
        rfl
      rcases tells_torn hn (Nat.succ_pos num) (by omega) n (t := t) with h3 | h3
      · left
        exact ⟨by omega, rfl, rfl, rfl, by rw [hv]; exact h2.mi.put_none h3, hc', h.a0, h2.a1, h2.lim⟩
      · right
        exact ⟨by omega, rfl, rfl, rfl, by rw [hv, h3]; exact h2.mi.put_new (tells_rec hn (Nat.succ_pos num) (by omega)), hc', h.a0, h2.a1, h2.lim⟩
  | 4, _ =>
    right
    have h2 := h.two
    have hs : ((D.free (a + (1 - last))).sync.write (a + (1 - last)) (recB (num + 1) t)) = (D.free (a + (1 - last))).sync.put (.wr (a + (1 - last)) (recB (num + 1) t)) (recB (num + 1) t).length := write_view hw
    have hc' := hc
    rw [show dAt D (a + (1 - last)) (recB (num + 1) t) 4 = ((D.free (a + (1 - last))).sync.write (a + (1 - last)) (recB (num + 1) t)).sync from rfl] at hc' ⊢
    rw [hs] at hc' ⊢
    refine ⟨by omega, rfl, rfl, rfl, ?_, hc', h.a0, h2.a1, h2.lim⟩
    show Mi ((D.free (a + (1 - last))).sync.put (.wr (a + (1 - last)) (recB (num + 1) t)) (recB (num + 1) t).length).view a (num + 1) (1 - last) t
    rw [put_view]
    exact h2.mi.put_new (tells_rec hn (Nat.succ_pos num) (by omega))
/-- A crash behind three steps, where the write wasn't kept; where all of it was. -/
theorem Mr.crash3 (h : Mr D a num last body) (hn : num + 1 < U64) (ht : t.length ≤ 480) (l : List (Int × Int)) :
    (keptN l 0 = none → Mr ((dAt D (a + (1 - last)) (recB (num + 1) t) 3).crash l) a num last body) ∧
    ∀ n, keptN l 0 = some n → (recB (num + 1) t).length ≤ n.toNat → Mr ((dAt D (a + (1 - last)) (recB (num + 1) t) 3).crash l) a (num + 1) (1 - last) t := by
  have hb := recB_short hn ht
  have hw := h.two.why hb
  have h2 := h.two
  have hc' := (dAt_ok h.ok (a + (1 - last)) (recB (num + 1) t) 3).crash l
  rw [show dAt D (a + (1 - last)) (recB (num + 1) t) 3 = (D.free (a + (1 - last))).sync.write (a + (1 - last)) (recB (num + 1) t) from rfl, write_view hw] at hc' ⊢
  have hgr : crashF l 0 ((D.free (a + (1 - last))).sync.put (.wr (a + (1 - last)) (recB (num + 1) t)) (recB (num + 1) t).length).pend ((D.free (a + (1 - last))).sync.view, (D.free (a + (1 - last))).sync.nv) =
      match keptN l 0 with | some n => doP ((D.free (a + (1 - last))).sync.view, (D.free (a + (1 - last))).sync.nv) (.wr (a + (1 - last)) (recB (num + 1) t)) n | none => ((D.free (a + (1 - last))).sync.view, (D.free (a + (1 - last))).sync.nv) := rfl
  refine ⟨fun hk => ?_, fun n hk hln => ?_⟩
  · rw [hk] at hgr
    refine ⟨rfl, rfl, rfl, ?_, hc', h.a0, h2.a1, h2.lim⟩
    show Mi (crashF l 0 _ _).1 a num last body
    rw [show crashF l 0 ((D.free (a + (1 - last))).sync.put (.wr (a + (1 - last)) (recB (num + 1) t)) (recB (num + 1) t).length).pend (((D.free (a + (1 - last))).sync.put (.wr (a + (1 - last)) (recB (num + 1) t)) (recB (num + 1) t).length).ground, ((D.free (a + (1 - last))).sync.put (.wr (a + (1 - last)) (recB (num + 1) t)) (recB (num + 1) t).length).ng) = _ from hgr]
    exact h2.mi
  · rw [hk] at hgr
    have hv : (((D.free (a + (1 - last))).sync.put (.wr (a + (1 - last)) (recB (num + 1) t)) (recB (num + 1) t).length).crash l).view = (D.free (a + (1 - last))).sync.view.put (a + (1 - last)) (recB (num + 1) t) := by
      show (crashF l 0 _ _).1 = _
      rw [show crashF l 0 ((D.free (a + (1 - last))).sync.put (.wr (a + (1 - last)) (recB (num + 1) t)) (recB (num + 1) t).length).pend (((D.free (a + (1 - last))).sync.put (.wr (a + (1 - last)) (recB (num + 1) t)) (recB (num + 1) t).length).ground, ((D.free (a + (1 - last))).sync.put (.wr (a + (1 - last)) (recB (num + 1) t)) (recB (num + 1) t).length).ng) = _ from hgr]
      unfold doP
      simp only
      unfold tornB
      rw [if_neg (by omega)]
    exact ⟨rfl, rfl, rfl, by rw [hv]; exact h2.mi.put_new (tells_rec hn (Nat.succ_pos num) (by omega)), hc', h.a0, h2.a1, h2.lim⟩
/-- All steps done. -/
theorem Mr.done (h : Mr D a num last body) (hn : num + 1 < U64) (ht : t.length ≤ 480) : Mr (dAt D (a + (1 - last)) (recB (num + 1) t) 4) a (num + 1) (1 - last) t := by
  have hb := recB_short hn ht
  have hw := h.two.why hb
  have h2 := h.two
  have hs : ((D.free (a + (1 - last))).sync.write (a + (1 - last)) (recB (num + 1) t)) = (D.free (a + (1 - last))).sync.put (.wr (a + (1 - last)) (recB (num + 1) t)) (recB (num + 1) t).length := write_view hw
  have hok := dAt_ok h.ok (a + (1 - last)) (recB (num + 1) t) 4
  rw [show dAt D (a + (1 - last)) (recB (num + 1) t) 4 = ((D.free (a + (1 - last))).sync.write (a + (1 - last)) (recB (num + 1) t)).sync from rfl] at hok ⊢
  rw [hs] at hok ⊢
  refine ⟨rfl, rfl, rfl, ?_, hok, h.a0, h2.a1, h2.lim⟩
  show Mi ((D.free (a + (1 - last))).sync.put (.wr (a + (1 - last)) (recB (num + 1) t)) (recB (num + 1) t).length).view a (num + 1) (1 - last) t
  rw [put_view]
  exact h2.mi.put_new (tells_rec hn (Nat.succ_pos num) (by omega))
/-- How far the steps come. -/
def stepI (k : Int) : Nat := if k < 1 then 0 else if k < 2 then 1 else if k < 3 then 2 else if k < 4 then 3 else 4
theorem stepI_le (k : Int) : stepI k ≤ 4 := by unfold stepI; split <;> (try split) <;> (try split) <;> (try split) <;> omega
theorem Mr.steps (h : Mr D a num last body) (hn : num + 1 < U64) (ht : t.length ≤ 480) (k : Int) :
    mtSteps D a num last t k = ⟨dAt D (a + (1 - last)) (recB (num + 1) t) (stepI k), if stepI k = 4 then num + 1 else num, if stepI k = 4 then 1 - last else last, decide (stepI k = 4), 0⟩ := by
  have hb := recB_short hn ht
  have hw := h.two.why hb
  have e : (num + 1) % U64 = num + 1 := Nat.mod_eq_of_lt hn
  unfold mtSteps
  rw [if_neg (by omega), e]
  unfold stepI
  by_cases h1 : k < 1
  · rw [if_pos h1, if_pos h1]; rfl
  · rw [if_neg h1, if_neg h1]
    by_cases h2 : k < 2
    · rw [if_pos h2, if_pos h2]; rfl
    · rw [if_neg h2, if_neg h2]
      by_cases h3 : k < 3
      · rw [if_pos h3, if_pos h3]; rfl
      · rw [if_neg h3, if_neg h3, if_neg (fun hh => hh hw)]
        by_cases h4 : k < 4
        · rw [if_pos h4, if_pos h4]; rfl
        · rw [if_neg h4, if_neg h4]; rfl
end
end Go.Proofs.YtildohndbeagaaaGreatDoor

namespace Go.Proofs.YtildohndbeagaaaGreatDoor
open Go
set_option linter.unusedVariables false

/-- The number of some flags, the first the lowest bit. -/
def wordL : List Bool → Nat
  | [] => 0
  | b :: l => b.toNat + 2 * wordL l
theorem wordL_bit : ∀ (l : List Bool) (k : Nat), (wordL l).testBit k = l.getD k false
  | [], k => by simp [wordL]
  | b :: l, 0 => by
    rw [wordL, Nat.testBit_zero]
    cases b <;> simp <;> omega
  | b :: l, k + 1 => by
    rw [wordL, Nat.testBit_succ, show (b.toNat + 2 * wordL l) / 2 = wordL l by cases b <;> simp <;> omega]
    exact wordL_bit l k
theorem wordL_lt : ∀ (l : List Bool), wordL l < 2 ^ l.length
  | [] => by simp [wordL]
  | b :: l => by
    have := wordL_lt l
    rw [wordL, List.length_cons, Nat.pow_succ]
    cases b <;> simp <;> omega
theorem wordL_lt64 {l : List Bool} (h : l.length ≤ 64) : wordL l < 18446744073709551616 :=
  Nat.lt_of_lt_of_le (wordL_lt l) (Nat.pow_le_pow_right (by omega) h : 2 ^ l.length ≤ 2 ^ 64)
theorem wordL_flip (l : List Bool) (k : Nat) (h : k < l.length) : wordL l ^^^ 2 ^ k = wordL (l.set k (!l[k])) := by
  apply Nat.eq_of_testBit_eq
  intro i
  rw [Nat.testBit_xor, wordL_bit, wordL_bit, Nat.testBit_two_pow]
  by_cases hi : k = i
  · subst hi
    simp [List.getD_eq_getElem?_getD, h]
  · simp [List.getD_eq_getElem?_getD, hi]

/-- How many of n bits are set. -/
def popN : Nat → Nat → Nat
  | 0, _ => 0
  | n + 1, x => x % 2 + popN n (x / 2)
theorem popN_zero : ∀ n, popN n 0 = 0
  | 0 => rfl
  | n + 1 => by rw [popN, Nat.zero_div, popN_zero n]
theorem popN_word : ∀ (n : Nat) (l : List Bool), l.length ≤ n → popN n (wordL l) = l.count true
  | n, [], _ => by rw [wordL, popN_zero]; rfl
  | 0, b :: l, h => by simp at h
  | n + 1, b :: l, h => by
    rw [wordL, popN, show (b.toNat + 2 * wordL l) / 2 = wordL l by cases b <;> simp <;> omega, popN_word n l (by simpa using h), List.count_cons]
    cases b <;> simp <;> omega
theorem popN_add : ∀ (m n x : Nat), popN (m + n) x = popN m x + popN n (x / 2 ^ m)
  | 0, n, x => by simp [popN]
  | m + 1, n, x => by
    rw [show m + 1 + n = (m + n) + 1 by omega, popN, popN_add m n, popN, Nat.div_div_eq_div_mul, Nat.pow_succ, Nat.mul_comm 2]
    omega
theorem popN_mod : ∀ (n x : Nat), popN n (x % 2 ^ n) = popN n x
  | 0, x => rfl
  | n + 1, x => by
    rw [popN, popN, ← popN_mod n (x / 2)]
    congr 1
    · rw [Nat.pow_succ]; exact Nat.mod_mul_left_mod x _ 2
    · congr 1
      rw [Nat.pow_succ, Nat.mul_comm, Nat.mod_mul_right_div_self]

/-! ### The bits of all bytes at once -/
theorem and_split (a b c d : Nat) (ha : a < 256) (hc : c < 256) : (a + 256 * b) &&& (c + 256 * d) = (a &&& c) + 256 * (b &&& d) := by
  have hac : a &&& c < 2 ^ 8 := Nat.and_lt_two_pow a hc
  apply Nat.eq_of_testBit_eq
  intro i
  rw [Nat.testBit_and, show a + 256 * b = 2 ^ 8 * b + a by omega, show c + 256 * d = 2 ^ 8 * d + c by omega, show (a &&& c) + 256 * (b &&& d) = 2 ^ 8 * (b &&& d) + (a &&& c) by omega,
    Nat.testBit_two_pow_mul_add _ ha, Nat.testBit_two_pow_mul_add _ hc, Nat.testBit_two_pow_mul_add _ hac]
  split
  · rw [Nat.testBit_and]
  · rw [Nat.testBit_and]
/-- A byte, n times over. -/
def repB (c : Nat) : Nat → Nat
  | 0 => 0
  | n + 1 => c + 256 * repB c n
def pop1 (b : Nat) : Nat := (b / 2 &&& 85) + (b &&& 85)
def pop2 (b : Nat) : Nat := (b / 4 &&& 51) + (b &&& 51)
def pop3 (b : Nat) : Nat := (b / 16 + b) &&& 15
theorem pop_byte : ∀ b, b < 256 → pop1 b < 256 ∧ pop2 (pop1 b) < 256 ∧ pop3 (pop2 (pop1 b)) = popN 8 b ∧ popN 8 b ≤ 8 ∧ (∀ d, d < 16 → d ≤ 4 → pop2 (pop1 b) / 16 ≤ 4 ∧ pop2 (pop1 b) % 16 ≤ 4) := by decide +kernel
/-- The bytes of a number, each turned by f. -/
def mapB (f : Nat → Nat) : Nat → Nat → Nat
  | 0, _ => 0
  | n + 1, x => f (x % 256) + 256 * mapB f n (x / 256)
theorem half_and (x c : Nat) (hc : ∀ b, b < 256 → ∀ t, t < 2 → (b / 2 + 128 * t) &&& c = b / 2 &&& c) (hc256 : c < 256) (y m : Nat) (hx : x = x % 256 + 256 * y) :
    (x / 2) &&& (c + 256 * m) = (x % 256 / 2 &&& c) + 256 * ((y / 2) &&& m) := by
  have h1 : x / 2 = (x % 256 / 2 + 128 * (y % 2)) + 256 * (y / 2) := by omega
  rw [h1, and_split _ _ _ _ (by omega) hc256, hc _ (by omega) _ (by omega)]
theorem quart_and (x c : Nat) (hc : ∀ b, b < 256 → ∀ t, t < 4 → (b / 4 + 64 * t) &&& c = b / 4 &&& c) (hc256 : c < 256) (y m : Nat) (hx : x = x % 256 + 256 * y) :
    (x / 4) &&& (c + 256 * m) = (x % 256 / 4 &&& c) + 256 * ((y / 4) &&& m) := by
  have h1 : x / 4 = (x % 256 / 4 + 64 * (y % 4)) + 256 * (y / 4) := by omega
  rw [h1, and_split _ _ _ _ (by omega) hc256, hc _ (by omega) _ (by omega)]
theorem c85 : ∀ b, b < 256 → ∀ t, t < 2 → (b / 2 + 128 * t) &&& 85 = b / 2 &&& 85 := by decide +kernel
theorem c51 : ∀ b, b < 256 → ∀ t, t < 4 → (b / 4 + 64 * t) &&& 51 = b / 4 &&& 51 := by decide +kernel
theorem stage1 : ∀ (n x : Nat), (x / 2 &&& repB 85 n) + (x &&& repB 85 n) = mapB pop1 n x
  | 0, x => by simp [repB, mapB]
  | n + 1, x => by
    have hx : x = x % 256 + 256 * (x / 256) := by omega
    have h2 : x &&& (85 + 256 * repB 85 n) = (x % 256 &&& 85) + 256 * (x / 256 &&& repB 85 n) := by
      conv => lhs; lhs; rw [hx]
      exact and_split _ _ _ _ (by omega) (by omega)
    rw [repB, half_and x 85 c85 (by omega) (x / 256) _ hx, h2, mapB, ← stage1 n (x / 256)]
    unfold pop1
    omega
theorem stage2 : ∀ (n x : Nat), (x / 4 &&& repB 51 n) + (x &&& repB 51 n) = mapB pop2 n x
  | 0, x => by simp [repB, mapB]
  | n + 1, x => by
    have hx : x = x % 256 + 256 * (x / 256) := by omega
    have h2 : x &&& (51 + 256 * repB 51 n) = (x % 256 &&& 51) + 256 * (x / 256 &&& repB 51 n) := by
      conv => lhs; lhs; rw [hx]
      exact and_split _ _ _ _ (by omega) (by omega)
    rw [repB, quart_and x 51 c51 (by omega) (x / 256) _ hx, h2, mapB, ← stage2 n (x / 256)]
    unfold pop2
    omega
theorem mapB_map (f g : Nat → Nat) (hf : ∀ b, b < 256 → f b < 256) : ∀ (n x : Nat), mapB g n (mapB f n x) = mapB (fun b => g (f b)) n x
  | 0, x => rfl
  | n + 1, x => by
    have h := hf (x % 256) (by omega)
    rw [mapB, mapB, mapB, show (f (x % 256) + 256 * mapB f n (x / 256)) % 256 = f (x % 256) by omega, show (f (x % 256) + 256 * mapB f n (x / 256)) / 256 = mapB f n (x / 256) by omega, mapB_map f g hf n]
theorem mapB_congr {f g : Nat → Nat} (h : ∀ b, b < 256 → f b = g b) : ∀ (n x : Nat), mapB f n x = mapB g n x
  | 0, x => rfl
  | n + 1, x => by rw [mapB, mapB, h _ (by omega), mapB_congr h n]
/-- What two rounds leave: in each byte two numbers of at most 4. -/
theorem two_nib : ∀ b, b < 256 → pop2 (pop1 b) / 16 ≤ 4 ∧ pop2 (pop1 b) % 16 ≤ 4 ∧ pop1 b < 256 ∧ pop2 (pop1 b) < 256 := by decide +kernel
theorem c15 : ∀ b, b < 256 → ∀ t, t < 5 → b / 16 ≤ 4 → b % 16 ≤ 4 → ((b / 16 + 16 * t + b) &&& 15 = (b / 16 + b) &&& 15) := by decide +kernel
/-- A number each of whose n bytes holds two numbers of at most 4. -/
def nibs : Nat → Nat → Prop
  | 0, x => x = 0
  | n + 1, x => x % 256 / 16 ≤ 4 ∧ x % 256 % 16 ≤ 4 ∧ nibs n (x / 256)
theorem nibs_map : ∀ (n x : Nat), nibs n (mapB (fun b => pop2 (pop1 b)) n x)
  | 0, x => rfl
  | n + 1, x => by
    obtain ⟨h1, h2, _, h4⟩ := two_nib (x % 256) (by omega)
    rw [mapB]
    refine ⟨?_, ?_, ?_⟩
    · rw [show (pop2 (pop1 (x % 256)) + 256 * mapB (fun b => pop2 (pop1 b)) n (x / 256)) % 256 = pop2 (pop1 (x % 256)) by omega]; exact h1
    · rw [show (pop2 (pop1 (x % 256)) + 256 * mapB (fun b => pop2 (pop1 b)) n (x / 256)) % 256 = pop2 (pop1 (x % 256)) by omega]; exact h2
    · rw [show (pop2 (pop1 (x % 256)) + 256 * mapB (fun b => pop2 (pop1 b)) n (x / 256)) / 256 = mapB (fun b => pop2 (pop1 b)) n (x / 256) by omega]; exact nibs_map n _
theorem nibs_low {n x : Nat} (h : nibs n x) : x % 16 ≤ 4 := by
  cases n with
  | zero => have : x = 0 := h; omega
  | succ n => have := h.2.1; omega
theorem stage3 : ∀ (n x : Nat), nibs n x → (x / 16 + x) &&& repB 15 n = mapB pop3 n x
  | 0, x, _ => by simp [repB, mapB]
  | n + 1, x, h => by
    obtain ⟨h1, h2, h3⟩ := h
    have hl := nibs_low h3
    have e : x / 16 + x = (x % 256 / 16 + 16 * (x / 256 % 16) + x % 256) + 256 * (x / 256 / 16 + x / 256) := by omega
    have hc := c15 (x % 256) (by omega) (x / 256 % 16) (by omega) h1 h2
    rw [repB, e, and_split _ _ _ _ (by omega) (by omega), stage3 n _ h3, mapB, hc]
    rfl
/-- The sum of n bytes. -/
def sumB : Nat → Nat → Nat
  | 0, _ => 0
  | n + 1, x => x % 256 + sumB n (x / 256)
theorem sumB_map (f : Nat → Nat) (hf : ∀ b, b < 256 → f b < 256) : ∀ (n x : Nat), sumB n (mapB f n x) = (fun s => s) (sumB n (mapB f n x)) := fun _ _ => rfl
theorem pop_bytes : ∀ (n x : Nat), sumB n (mapB (fun b => popN 8 b) n x) = popN (8 * n) x
  | 0, x => rfl
  | n + 1, x => by
    have hb : popN 8 (x % 256) ≤ 8 := (pop_byte (x % 256) (by omega)).2.2.2.1
    rw [mapB, sumB, show (popN 8 (x % 256) + 256 * mapB (fun b => popN 8 b) n (x / 256)) % 256 = popN 8 (x % 256) by omega,
      show (popN 8 (x % 256) + 256 * mapB (fun b => popN 8 b) n (x / 256)) / 256 = mapB (fun b => popN 8 b) n (x / 256) by omega,
      pop_bytes n, show 8 * (n + 1) = 8 + 8 * n by omega, popN_add, ← popN_mod 8 x]
theorem pops_le : ∀ (n x : Nat), ∃ l : List Nat, l.length = n ∧ (∀ p ∈ l, p ≤ 8) ∧ mapB (fun b => popN 8 b) n x = l.foldr (fun p a => p + 256 * a) 0 ∧ popN (8 * n) x = l.sum
  | 0, x => ⟨[], rfl, by simp, rfl, rfl⟩
  | n + 1, x => by
    obtain ⟨l, h1, h2, h3, h4⟩ := pops_le n (x / 256)
    have hb : popN 8 (x % 256) ≤ 8 := (pop_byte (x % 256) (by omega)).2.2.2.1
    refine ⟨popN 8 (x % 256) :: l, by simp [h1], ?_, ?_, ?_⟩
    · intro p hp
      rcases List.mem_cons.1 hp with rfl | hp
      · exact hb
      · exact h2 p hp
    · rw [mapB, h3]; rfl
    · rw [show 8 * (n + 1) = 8 + 8 * n by omega, popN_add, ← popN_mod 8 x, List.sum_cons, ← h4]
/-- The three rounds of bits.OnesCount64, then the bytes' sum. -/
theorem ones_spec (x : Nat) : ∃ a b c d e f g h : Nat, a ≤ 8 ∧ b ≤ 8 ∧ c ≤ 8 ∧ d ≤ 8 ∧ e ≤ 8 ∧ f ≤ 8 ∧ g ≤ 8 ∧ h ≤ 8 ∧
    (let x1 := (x / 2 &&& repB 85 8) + (x &&& repB 85 8); let x2 := (x1 / 4 &&& repB 51 8) + (x1 &&& repB 51 8); (x2 / 16 + x2) &&& repB 15 8 = a + 256 * (b + 256 * (c + 256 * (d + 256 * (e + 256 * (f + 256 * (g + 256 * h))))))) ∧
    popN 64 x = a + b + c + d + e + f + g + h := by
  obtain ⟨l, hl, h8, hm, hs⟩ := pops_le 8 x
  match l, hl with
  | [a, b, c, d, e, f, g, h], _ =>
    refine ⟨a, b, c, d, e, f, g, h, h8 a (by simp), h8 b (by simp), h8 c (by simp), h8 d (by simp), h8 e (by simp), h8 f (by simp), h8 g (by simp), h8 h (by simp), ?_, ?_⟩
    · simp only
      rw [stage1, stage2, mapB_map _ _ (fun b hb => (two_nib b hb).2.2.1), stage3 _ _ (nibs_map 8 x), mapB_map _ _ (fun b hb => (two_nib b hb).2.2.2)]
      rw [mapB_congr (fun b hb => (pop_byte b hb).2.2.1), hm]
      simp
    · rw [hs]; simp; omega
/-- The last rounds add all bytes up. -/
theorem ones_sum (a b c d e f g h : Nat) (ha : a ≤ 8) (hb : b ≤ 8) (hc : c ≤ 8) (hd : d ≤ 8) (he : e ≤ 8) (hf : f ≤ 8) (hg : g ≤ 8) (hh : h ≤ 8) :
    ∀ q, q = a + 256 * (b + 256 * (c + 256 * (d + 256 * (e + 256 * (f + 256 * (g + 256 * h)))))) → ∀ s, s = q + q / 256 → ∀ t, t = s + s / 65536 → q ≤ 620000000000000000 ∧ s ≤ 630000000000000000 ∧ t ≤ 640000000000000000 ∧ (t + t / 4294967296) % 128 = a + b + c + d + e + f + g + h := by
  intro q hq s hs t ht
  obtain ⟨r6, e6⟩ : ∃ r, r = g + 256 * h := ⟨_, rfl⟩
  rw [← e6] at hq
  obtain ⟨r5, e5⟩ : ∃ r, r = f + 256 * r6 := ⟨_, rfl⟩
  rw [← e5] at hq
  obtain ⟨r4, e4⟩ : ∃ r, r = e + 256 * r5 := ⟨_, rfl⟩
  rw [← e4] at hq
  obtain ⟨r3, e3⟩ : ∃ r, r = d + 256 * r4 := ⟨_, rfl⟩
  rw [← e3] at hq
  obtain ⟨r2, e2⟩ : ∃ r, r = c + 256 * r3 := ⟨_, rfl⟩
  rw [← e2] at hq
  obtain ⟨r1, e1⟩ : ∃ r, r = b + 256 * r2 := ⟨_, rfl⟩
  rw [← e1] at hq
  have b6 : r6 ≤ 2056 := by clear hq hs ht e1 e2 e3 e4 e5; omega
  have b5 : r5 ≤ 526344 := by clear hq hs ht e1 e2 e3 e4 e6; omega
  have b4 : r4 ≤ 134744072 := by clear hq hs ht e1 e2 e3 e5 e6; omega
  have b3 : r3 ≤ 34494482440 := by clear hq hs ht e1 e2 e4 e5 e6; omega
  have b2 : r2 ≤ 8830587504648 := by clear hq hs ht e1 e3 e4 e5 e6; omega
  have b1 : r1 ≤ 2260630401189896 := by clear hq hs ht e2 e3 e4 e5 e6; omega
  have bq : q ≤ 578721382704613384 := by clear hs ht e1 e2 e3 e4 e5 e6; omega
  have h1 : q / 256 = r1 := by clear hs ht e1 e2 e3 e4 e5 e6 b1 b2 b3 b4 b5 b6; omega
  rw [h1] at hs
  obtain ⟨s2, f2⟩ : ∃ r, r = r2 + r3 := ⟨_, rfl⟩
  obtain ⟨s4, f4⟩ : ∃ r, r = r4 + r5 := ⟨_, rfl⟩
  obtain ⟨s6, f6⟩ : ∃ r, r = r6 + h := ⟨_, rfl⟩
  have h2 : s = (a + b) + 256 * (b + c) + 65536 * s2 := by clear ht e3 e4 e5 e6 b1 b2 b3 b4 b5 b6 h1 f4 f6; omega
  have h3 : s / 65536 = s2 := by clear hq hs ht e1 e2 e3 e4 e5 e6 b1 b2 b3 b4 b5 b6 h1 f2 f4 f6; omega
  rw [h3] at ht
  have h4 : s2 = (c + d) + 256 * (d + e) + 65536 * s4 := by clear hq hs ht e1 e5 e6 b1 b2 b3 b4 b5 b6 h1 h2 h3 f6; omega
  have h5 : s4 = (e + f) + 256 * (f + g) + 65536 * s6 := by clear hq hs ht e1 e2 e3 b1 b2 b3 b4 b5 b6 h1 h2 h3 h4 f2; omega
  have h6 : s6 = (g + h) + 256 * h := by clear hq hs ht e1 e2 e3 e4 e5 b1 b2 b3 b4 b5 b6 h1 h2 h3 h4 h5 f2 f4; omega
  obtain ⟨t4, g4⟩ : ∃ r, r = s4 + s6 := ⟨_, rfl⟩
  have h7 : t = ((a + b + c + d) + 256 * (b + c + d + e) + 65536 * (c + d + e + f) + 16777216 * (d + e + f + g)) + 4294967296 * t4 := by clear hq hs e1 e2 e3 e4 e5 e6 b1 b2 b3 b4 b5 b6 h1 h3 h6 f2 f4 f6; omega
  have h8 : t / 4294967296 = t4 := by clear hq hs ht e1 e2 e3 e4 e5 e6 b1 b2 b3 b4 b5 b6 h1 h2 h3 h4 h5 h6 f2 f4 f6 g4; omega
  have h9 : t4 = (e + f + g + h) + 256 * (f + g + h + 256 * s6) := by clear hq hs ht e1 e2 e3 e4 e5 e6 b1 b2 b3 b4 b5 b6 h1 h2 h3 h4 h7 h8 f2 f4 f6; omega
  have bs : s ≤ 630000000000000000 := by clear ht e1 e2 e3 e4 e5 e6 b2 b3 b4 b5 b6 h1 h2 h3 h4 h5 h6 h7 h8 h9 f2 f4 f6 g4; omega
  have bt : t ≤ 640000000000000000 := by clear hq e1 e2 e3 e4 e5 e6 b1 b4 b5 b6 h1 h2 h3 h4 h5 h6 h7 h8 h9 f4 f6 g4 hs; omega
  refine ⟨Nat.le_trans bq (by decide), bs, bt, ?_⟩
  rw [h8]
  clear hq hs ht e1 e2 e3 e4 e5 e6 b1 b2 b3 b4 b5 b6 h1 h2 h3 h4 h5 h6 h8 f2 f4 f6 g4 bs bt bq
  generalize f + g + h + 256 * s6 = y at *
  omega
theorem rep85 : repB 85 8 = 6148914691236517205 := by decide
theorem rep51 : repB 51 8 = 3689348814741910323 := by decide
theorem rep15 : repB 15 8 = 1085102592571150095 := by decide
end Go.Proofs.YtildohndbeagaaaGreatDoor
