/- The meta page: Open, Number. -/
import Derived.Test.YtpmndmgfoiagnaaDoorMetA
import Derived.BigQuiet
import Derived.Deep.QuietTactic
namespace Go.Proofs.YtpmndmgfoiagnaaDoor
open Go Go.RowKit
set_option linter.unusedVariables false

/-- Behind i sectors. -/
def mtUp (f : SF) (a : Int) : Nat → Nat × Int × List UInt8
  | 0 => (0, 1, [])
  | i + 1 => mtStep f a (mtUp f a i) (i : Int)
theorem mtOpen_eq (f : SF) (a : Int) : mtOpen f a = mtUp f a 2 := rfl
theorem mtStep_eq (f : SF) (a : Int) (x : Nat × Int × List UInt8) (i : Int) : mtStep f a x i = match tellsO (f (a + i)) with | some (q, t) => if x.1 < q then (q, i, t) else x | none => x := by
  unfold mtStep tellsO
  cases f (a + i) with
  | none => rfl
  | some s => rfl
/-- The meta page in memory. -/
structure Mk (w : World) (g : Nat) (h : Zn) (a : Int) (num : Nat) (last : Int) : Prop where
  blk : Blk w g 70 #[.pointer (some ⟨h.g, 0, none⟩), .int .i64 a, .int .u64 (num : Int), .int .i64 last]
structure MbSt (w wr : World) (h : Zn) (a : Int) (x : Nat × Int × List UInt8) : Prop where
  blk : Blk wr w.heap.size 70 #[.pointer (some ⟨h.g, 0, none⟩), .int .i64 a, .int .u64 (x.1 : Int), .int .i64 x.2.1]
  below : Below w.heap.size w wr
theorem MbSt.to {w wr w' : World} {h : Zn} {a : Int} {x : Nat × Int × List UInt8} (s : MbSt w wr h a x) (hb : Below wr.heap.size wr w') : MbSt w w' h a x := ⟨s.blk.later hb, s.below.trans (hb.mono s.below.size)⟩
theorem mb_put {w W : World} {h : Zn} {a : Int} {x : Nat × Int × List UInt8} (s : MbSt w W h a x) (n : Nat) {q : Nat} {i : Int} {t : List UInt8} :
    MbSt w (((W.drewN n).setCell ⟨w.heap.size, 2, none⟩ (.int .u64 (q : Int))).setCell ⟨w.heap.size, 3, none⟩ (.int .i64 i)).drew h a (q, i, t) := by
  have s2 := s.to (below_drewN (Below.refl _ _) n)
  exact ⟨(s2.blk.put 2 (.int .u64 (q : Int))).put 3 (.int .i64 i), ((s2.below.setCell (p := ⟨w.heap.size, 2, none⟩) (Nat.le_refl _) _).setCell (p := ⟨w.heap.size, 3, none⟩) (Nat.le_refl _) _).drew⟩
/-- What Open answers. -/
def MoPost (h : Zn) (D : Dsk) (a : Int) (w : World) (e : Ending) (w' : World) : Prop :=
  ∃ g, e = .returned (.tuple #[.pointer (some ⟨g, 0, none⟩), .string (st (mtOpen D.view a).2.2), .int .i64 (mtErr (mtOpen D.view a) : Nat)]) ∧
    Mk w' g h a (mtOpen D.view a).1 (mtOpen D.view a).2.1 ∧ w.heap.size ≤ g ∧ Below w.heap.size w w'
theorem mtUp_empty (f : SF) (a : Int) : ∀ i, (mtUp f a i).1 = 0 → (mtUp f a i).2.2 = []
  | 0, _ => rfl
  | i + 1, h => by
    have ih := mtUp_empty f a i
    rw [mtUp, mtStep_eq] at h ⊢
    cases ht : tellsO (f (a + (i : Int))) with
    | none => rw [ht] at h; exact ih h
    | some x =>
      obtain ⟨q, t⟩ := x
      rw [ht] at h
      simp only at h ⊢
      by_cases hq : (mtUp f a i).1 < q
      · rw [if_pos hq] at h
        simp only at h
        omega
      · rw [if_neg hq] at h ⊢
        exact ih h
theorem mo_fin {h : Zn} {D : Dsk} {a : Int} {w wr : World} {b : List UInt8} {n : Nat} (s : MbSt w wr h a (mtUp D.view a 2)) (hb : (mtUp D.view a 2).2.2 = b) (hn : mtErr (mtUp D.view a 2) = n) {ev : Int} (he : ev = (n : Int)) :
    MoPost h D a w (.returned (.tuple #[.pointer (some ⟨w.heap.size, 0, none⟩), .string (st b), .int .i64 ev])) wr := by
  subst hb hn he
  exact ⟨w.heap.size, rfl, ⟨s.blk⟩, Nat.le_refl _, s.below⟩

set_option maxHeartbeats 1000000 in
theorem mopen_bad (v : Value) (a : Int) (w : World) (h : a < 0 ∨ 65534 < a) :
    Calls Tryd.prog 8 #[v, .int .i64 a] w fun e w' => e = .returned (.tuple #[.pointer none, .string (st []), .int .i64 122]) ∧ w = w' := by
  rcases Decidable.em (a < 0) with h0 | h0
  case' inl => have hx := h0
  case' inr => have hx : 65534 < a := h.resolve_left h0
  all_goals
    clear h
    go_enter Tryd.func8, Tryd.ntmps8
    go_wp2_with fail
    go_ret3
    exact ⟨rfl, rfl⟩

set_option maxHeartbeats 4000000 in
set_option maxRecDepth 100000 in
theorem mopen_any (h : Zn) (D : Dsk) (a : Int) (w : World) (hd : Dk w h D) (hok : D.Ok) (h0 : 0 ≤ a) (h1 : a ≤ 65534) :
    Calls Tryd.prog 8 #[.pointer (some ⟨h.g, 0, none⟩), .int .i64 a] w (MoPost h D a w) := by
  have HD := Lib.hid hd
  have HOK := Lib.hid hok
  have n0 : ¬ a < 0 := by omega
  have n1 : ¬ 65534 < a := by omega
  have S0 : Hid (MbSt w (w.alloc (.cells #[.pointer (some ⟨h.g, 0, none⟩), .int .i64 a, .int .u64 0, .int .i64 1] 70)) h a (mtUp D.view a 0)) := ⟨Blk.new _ _ _, (Below.refl _ _).alloc (Nat.le_refl _) _⟩
  clear hd hok
  go_enter Tryd.func8, Tryd.ntmps8
  go_wp2_with fail
  go_loopw [8, 22] (fun bv iv wr => ∃ i : Nat, iv = .int .i64 (i : Int) ∧ i ≤ 2 ∧ bv = .string (st (mtUp D.view a i).2.2) ∧ Hid (MbSt w wr h a (mtUp D.view a i))) (fun _ iv _ => 2 - (intOf iv).toNat)
  case atStart => exact ⟨0, rfl, by omega, rfl, S0⟩
  case round =>
    clear S0
    obtain ⟨i, rfl, hi, rfl, HST⟩ := hrel
    by_cases hil : i < 2
    · have hai : InI (a + (i : Int)) := by unfold InI; omega
      have HUP : Hid (mtUp D.view a (i + 1) = mtStep D.view a (mtUp D.view a i) (i : Int)) := rfl
      obtain ⟨x, hx⟩ : ∃ x, mtUp D.view a i = x := ⟨_, rfl⟩
      rw [hx] at HUP HST
      rw [hx]
      obtain ⟨num, last, body⟩ := x
      clear hx
      go_wp2_with fail
      refine (mtells_any h D _ _ (HD.out.later HST.out.below) HOK.out hai).mono ?_
      rintro e w1 ⟨⟨q, t⟩, ok, rfl, ht, hb1⟩
      have s1 := HST.out.to hb1
      have HS2 := Lib.hid (s1.to ((Below.refl _ _).alloc (Nat.le_refl _) (.cells #[.int .u64 (q : Int), .string (st t)] 72)))
      have B8 := Blk.new w1 72 #[.int .u64 (q : Int), .string (st t)]
      have d0 : (w1.alloc (.cells #[.int .u64 (q : Int), .string (st t)] 72)).cell? ⟨w1.heap.size, 0, none⟩ = some (.int .u64 (q : Int)) := B8.cell 0
      have d1 : (w1.alloc (.cells #[.int .u64 (q : Int), .string (st t)] 72)).cell? ⟨w1.heap.size, 1, none⟩ = some (.string (st t)) := B8.cell 1
      have df0 : (w1.alloc (.cells #[.int .u64 (q : Int), .string (st t)] 72)).frozen? ⟨w1.heap.size, 0, none⟩ = false := B8.free 0
      have df1 : (w1.alloc (.cells #[.int .u64 (q : Int), .string (st t)] 72)).frozen? ⟨w1.heap.size, 1, none⟩ = false := B8.free 1
      have m0 : (w1.alloc (.cells #[.int .u64 (q : Int), .string (st t)] 72)).cell? ⟨w.heap.size, 0, none⟩ = some (.pointer (some ⟨h.g, 0, none⟩)) := HS2.out.blk.cell 0
      have m1 : (w1.alloc (.cells #[.int .u64 (q : Int), .string (st t)] 72)).cell? ⟨w.heap.size, 1, none⟩ = some (.int .i64 a) := HS2.out.blk.cell 1
      have m2 : (w1.alloc (.cells #[.int .u64 (q : Int), .string (st t)] 72)).cell? ⟨w.heap.size, 2, none⟩ = some (.int .u64 (num : Int)) := HS2.out.blk.cell 2
      have m3 : (w1.alloc (.cells #[.int .u64 (q : Int), .string (st t)] 72)).cell? ⟨w.heap.size, 3, none⟩ = some (.int .i64 last) := HS2.out.blk.cell 3
      have mf0 : (w1.alloc (.cells #[.int .u64 (q : Int), .string (st t)] 72)).frozen? ⟨w.heap.size, 0, none⟩ = false := HS2.out.blk.free 0
      have mf1 : (w1.alloc (.cells #[.int .u64 (q : Int), .string (st t)] 72)).frozen? ⟨w.heap.size, 1, none⟩ = false := HS2.out.blk.free 1
      have mf2 : (w1.alloc (.cells #[.int .u64 (q : Int), .string (st t)] 72)).frozen? ⟨w.heap.size, 2, none⟩ = false := HS2.out.blk.free 2
      have mf3 : (w1.alloc (.cells #[.int .u64 (q : Int), .string (st t)] 72)).frozen? ⟨w.heap.size, 3, none⟩ = false := HS2.out.blk.free 3
      have hlt : w.heap.size < w1.heap.size := s1.blk.lt
      have n8 : ¬ w.heap.size = w1.heap.size := by omega
      have n8' : ¬ w1.heap.size = w.heap.size := by omega
      have HT := Lib.hid ht
      clear B8 s1 hb1 ht
      unfold recV
      cases ok with
      | false =>
        have HU : Hid (mtUp D.view a (i + 1) = (num, last, body)) := by rw [Hid, HUP.out, mtStep_eq, HT.out]; rfl
        go_wp2_with fail
        generalize hW : w1.alloc _ = W at *
        go_quiet (fail)
        go_wp2_with fail
        go_roundw
        case rel => exact ⟨i + 1, by go_num, by omega, by rw [HU.out], by rw [HU.out]; exact HS2.out.to (below_drewN (Below.refl _ _) _)⟩
        case measure => simp [intOf]; omega
      | true =>
        by_cases hq : num < q
        · have HU : Hid (mtUp D.view a (i + 1) = (q, (i : Int), t)) := by rw [Hid, HUP.out, mtStep_eq, HT.out]; simp [hq]
          have hqd : decide (num < q) = true := by simpa using hq
          clear hq
          go_wp2_with fail
          generalize hW : w1.alloc _ = W at *
          go_quiet (fail)
          go_wp2_with fail
          go_region
          go_wp2_with fail
          go_roundw
          case rel => exact ⟨i + 1, by go_num, by omega, by rw [HU.out], by rw [HU.out]; exact mb_put HS2.out nq⟩
          case measure => simp [intOf]; omega
        · have HU : Hid (mtUp D.view a (i + 1) = (num, last, body)) := by rw [Hid, HUP.out, mtStep_eq, HT.out]; simp [hq]
          have hqd : decide (num < q) = false := by simpa using hq
          clear hq
          go_wp2_with fail
          generalize hW : w1.alloc _ = W at *
          go_quiet (fail)
          go_wp2_with fail
          go_roundw
          case rel => exact ⟨i + 1, by go_num, by omega, by rw [HU.out], by rw [HU.out]; exact HS2.out.to (below_drewN (Below.refl _ _) _)⟩
          case measure => simp [intOf]; omega
    · obtain rfl : i = 2 := by omega
      have HE := mtUp_empty D.view a 2
      obtain ⟨x, hx⟩ : ∃ x, mtUp D.view a 2 = x := ⟨_, rfl⟩
      have HX := Lib.hid hx
      rw [hx] at HE HST ⊢
      obtain ⟨num, last, body⟩ := x
      simp only at HE HST
      have m0 : (wr).cell? ⟨w.heap.size, 0, none⟩ = some (.pointer (some ⟨h.g, 0, none⟩)) := HST.out.blk.cell 0
      have m1 : (wr).cell? ⟨w.heap.size, 1, none⟩ = some (.int .i64 a) := HST.out.blk.cell 1
      have m2 : (wr).cell? ⟨w.heap.size, 2, none⟩ = some (.int .u64 (num : Int)) := HST.out.blk.cell 2
      have m3 : (wr).cell? ⟨w.heap.size, 3, none⟩ = some (.int .i64 last) := HST.out.blk.cell 3
      have mf0 : (wr).frozen? ⟨w.heap.size, 0, none⟩ = false := HST.out.blk.free 0
      have mf1 : (wr).frozen? ⟨w.heap.size, 1, none⟩ = false := HST.out.blk.free 1
      have mf2 : (wr).frozen? ⟨w.heap.size, 2, none⟩ = false := HST.out.blk.free 2
      have mf3 : (wr).frozen? ⟨w.heap.size, 3, none⟩ = false := HST.out.blk.free 3
      have HEE := Lib.hid HE
      clear HE hx
      by_cases hn0 : num = 0
      · subst hn0
        go_wp2_with fail
        go_ret3
        exact mo_fin (by rw [HX.out]; exact HST.out) (by rw [HX.out]; exact HEE.out (by trivial)) (by rw [HX.out]; rfl) rfl
      · have hnb : ((num : Int) == 0) = false := by simp; omega
        go_wp2_with fail
        go_ret3
        exact mo_fin (by rw [HX.out]; exact HST.out) (by rw [HX.out]) (by rw [HX.out]; exact if_neg hn0) rfl
end Go.Proofs.YtpmndmgfoiagnaaDoor
