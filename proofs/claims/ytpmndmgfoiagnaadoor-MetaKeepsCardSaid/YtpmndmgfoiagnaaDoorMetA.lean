/- The meta page: tells. -/
import Derived.Test.YtpmndmgfoiagnaaDoorMetP
import Derived.Test.YtpmndmgfoiagnaaDoorDskH
import Derived.Test.YtpmndmgfoiagnaaDoorRecG
import Derived.BigRegion
import Derived.Deep.RegionHeld3
namespace Go.Proofs.YtpmndmgfoiagnaaDoor
open Go Go.RowKit
set_option linter.unusedVariables false

/-- What a sector tells. -/
def tellsO : Option (List UInt8) → Option (Nat × List UInt8)
  | some s => tellsB s
  | none => none
def TlPost (f : SF) (a : Int) (w : World) (e : Ending) (w' : World) : Prop :=
  ∃ (r : Nat × List UInt8) (ok : Bool), e = .returned (.tuple #[recV r, .bool ok]) ∧ tellsO (f a) = (if ok then some r else none) ∧ Below w.heap.size w w'
theorem tl_none {f : SF} {a : Int} (r : Nat × List UInt8) {w w' : World} (h : tellsO (f a) = none) (hb : Below w.heap.size w w') : TlPost f a w (.returned (.tuple #[recV r, .bool false])) w' := ⟨r, false, rfl, h, hb⟩
theorem tl_some {f : SF} {a : Int} (r : Nat × List UInt8) {w w' : World} (h : tellsO (f a) = some r) (hb : Below w.heap.size w w') : TlPost f a w (.returned (.tuple #[recV r, .bool true])) w' := ⟨r, true, rfl, h, hb⟩

theorem tl_blk {W : World} {g : Nat} {t : TypeId} {a b : Value} (h : Blk W g t #[a, b]) (x y : Value) : Blk ((W.setCell ⟨g, 0, none⟩ x).setCell ⟨g, 1, none⟩ y).drew g t #[x, y] := (h.put 0 x).put 1 y
theorem tl_below {B : Nat} {w W : World} (h : Below B w W) {g : Nat} (hg : B ≤ g) (x y : Value) : Below B w ((W.setCell ⟨g, 0, none⟩ x).setCell ⟨g, 1, none⟩ y).drew := ((h.setCell (p := ⟨g, 0, none⟩) hg x).setCell (p := ⟨g, 1, none⟩) hg y).drew
theorem tells_out {f : SF} {a : Int} {s : List UInt8} (hv : f a = some s) : tellsO (f a) = tellsB s := by rw [hv]; rfl
set_option maxHeartbeats 4000000 in
set_option maxRecDepth 100000 in
theorem mtells_any (h : Zn) (D : Dsk) (a : Int) (w : World) (hd : Dk w h D) (hok : D.Ok) (ha : InI a) :
    Calls Tryd.prog 22 #[.pointer (some ⟨h.g, 0, none⟩), .int .i64 a] w (TlPost D.view a w) := by
  have HD := Lib.hid hd
  have HOK := Lib.hid hok
  have b0 := Blk.new w 72 #[.int .u64 0, .string ⟨#[]⟩]
  have q0 := (Below.refl w.heap.size w).alloc (Nat.le_refl _) (.cells #[.int .u64 0, .string ⟨#[]⟩] 72)
  have HB0 := Lib.hid b0
  have HQ0 := Lib.hid q0
  have HL0 : Hid (Below w.heap.size w (w.alloc (.cells #[.int .u64 0, .string ⟨#[]⟩] 72))) := q0
  clear hd hok b0 q0
  go_enter Tryd.func22, Tryd.ntmps22
  go_wp2_with fail
  refine (dread_any h D a _ (HD.out.later HL0.out) HOK.out ha).mono ?_
  rintro e w1 ⟨hs, hn, hb1⟩
  have HB1 := Lib.hid hb1
  cases hv : D.view a with
  | none =>
    obtain rfl := hn hv
    have HT : Hid (tellsO (D.view a) = none) := by rw [Hid, hv]; rfl
    clear hs hn hb1 hv
    go_wp2_with fail
    refine (rget_any (fun _ => True) _ [] _ (by simp) Sl.nil).mono ?_
    rintro e w2 ⟨rfl, hb2⟩
    have hr : recGet [] = none := rfl
    rw [hr]
    unfold rgetV recV
    have B0 := Lib.hid ((HB0.out.later HB1.out).later hb2)
    have Q2 := Lib.hid ((HQ0.out.trans (HB1.out.mono HQ0.out.size)).trans (hb2.mono (Nat.le_trans HQ0.out.size HB1.out.size)))
    have hlt : w.heap.size < w2.heap.size := B0.out.lt
    have B0a := B0.out.alloc (.cells #[.int .u64 ((0 : Nat) : Int), .string (st [])] 72)
    have c0 : (w2.alloc (.cells #[.int .u64 ((0 : Nat) : Int), .string (st [])] 72)).cell? ⟨w.heap.size, 0, none⟩ = some (.int .u64 0) := B0a.cell 0
    have c1 : (w2.alloc (.cells #[.int .u64 ((0 : Nat) : Int), .string (st [])] 72)).cell? ⟨w.heap.size, 1, none⟩ = some (.string ⟨#[]⟩) := B0a.cell 1
    have cf0 : (w2.alloc (.cells #[.int .u64 ((0 : Nat) : Int), .string (st [])] 72)).frozen? ⟨w.heap.size, 0, none⟩ = false := B0a.free 0
    have cf1 : (w2.alloc (.cells #[.int .u64 ((0 : Nat) : Int), .string (st [])] 72)).frozen? ⟨w.heap.size, 1, none⟩ = false := B0a.free 1
    have B8 := Blk.new w2 72 #[.int .u64 ((0 : Nat) : Int), .string (st [])]
    have d0 : (w2.alloc (.cells #[.int .u64 ((0 : Nat) : Int), .string (st [])] 72)).cell? ⟨w2.heap.size, 0, none⟩ = some (.int .u64 ((0 : Nat) : Int)) := B8.cell 0
    have d1 : (w2.alloc (.cells #[.int .u64 ((0 : Nat) : Int), .string (st [])] 72)).cell? ⟨w2.heap.size, 1, none⟩ = some (.string (st [])) := B8.cell 1
    have df0 : (w2.alloc (.cells #[.int .u64 ((0 : Nat) : Int), .string (st [])] 72)).frozen? ⟨w2.heap.size, 0, none⟩ = false := B8.free 0
    have df1 : (w2.alloc (.cells #[.int .u64 ((0 : Nat) : Int), .string (st [])] 72)).frozen? ⟨w2.heap.size, 1, none⟩ = false := B8.free 1
    have BW := Lib.hid B0a
    have QW := Lib.hid (Q2.out.alloc Q2.out.size (.cells #[.int .u64 ((0 : Nat) : Int), .string (st [])] 72))
    clear hb2 B0a B8
    go_wp2_with fail
    generalize hW : w2.alloc _ = W at *
    have n8 : ¬ w.heap.size = w2.heap.size := by omega
    have n8' : ¬ w2.heap.size = w.heap.size := by omega
    go_region
    go_wp2_with fail
    refine bodyPost_ret (results_cell2 rfl _ _ w.heap.size rfl (tl_blk BW.out _ _) recTy) rfl ?_
    exact tl_none (0, []) HT.out (tl_below QW.out (Nat.le_refl _) _ _)
  | some s =>
    obtain ⟨A, c, rfl, hob⟩ := hs s hv
    have HOB := Lib.hid hob
    have hsl : s.length ≤ 512 := (HOK.out.view.at hv).2.2
    have HTV := Lib.hid (tells_out hv)
    clear hs hn hb1 hv hob
    go_wp2_with fail
    refine (rget_any _ _ s _ (by omega) HOB.out.bs).mono ?_
    rintro e w2 ⟨rfl, hb2⟩
    have B0 := Lib.hid ((HB0.out.later HB1.out).later hb2)
    have Q2 := Lib.hid ((HQ0.out.trans (HB1.out.mono HQ0.out.size)).trans (hb2.mono (Nat.le_trans HQ0.out.size HB1.out.size)))
    have hlt : w.heap.size < w2.heap.size := B0.out.lt
    have n8 : ¬ w.heap.size = w2.heap.size := by omega
    have n8' : ¬ w2.heap.size = w.heap.size := by omega
    clear hb2
    cases hg : recGet s with
    | none =>
      have HT : Hid (tellsO (D.view a) = none) := by rw [Hid, HTV.out]; unfold tellsB; rw [hg]
      unfold rgetV recV
      have B0a := B0.out.alloc (.cells #[.int .u64 ((0 : Nat) : Int), .string (st [])] 72)
      have c0 : (w2.alloc (.cells #[.int .u64 ((0 : Nat) : Int), .string (st [])] 72)).cell? ⟨w.heap.size, 0, none⟩ = some (.int .u64 0) := B0a.cell 0
      have c1 : (w2.alloc (.cells #[.int .u64 ((0 : Nat) : Int), .string (st [])] 72)).cell? ⟨w.heap.size, 1, none⟩ = some (.string ⟨#[]⟩) := B0a.cell 1
      have cf0 : (w2.alloc (.cells #[.int .u64 ((0 : Nat) : Int), .string (st [])] 72)).frozen? ⟨w.heap.size, 0, none⟩ = false := B0a.free 0
      have cf1 : (w2.alloc (.cells #[.int .u64 ((0 : Nat) : Int), .string (st [])] 72)).frozen? ⟨w.heap.size, 1, none⟩ = false := B0a.free 1
      have B8 := Blk.new w2 72 #[.int .u64 ((0 : Nat) : Int), .string (st [])]
      have d0 : (w2.alloc (.cells #[.int .u64 ((0 : Nat) : Int), .string (st [])] 72)).cell? ⟨w2.heap.size, 0, none⟩ = some (.int .u64 ((0 : Nat) : Int)) := B8.cell 0
      have d1 : (w2.alloc (.cells #[.int .u64 ((0 : Nat) : Int), .string (st [])] 72)).cell? ⟨w2.heap.size, 1, none⟩ = some (.string (st [])) := B8.cell 1
      have df0 : (w2.alloc (.cells #[.int .u64 ((0 : Nat) : Int), .string (st [])] 72)).frozen? ⟨w2.heap.size, 0, none⟩ = false := B8.free 0
      have df1 : (w2.alloc (.cells #[.int .u64 ((0 : Nat) : Int), .string (st [])] 72)).frozen? ⟨w2.heap.size, 1, none⟩ = false := B8.free 1
      have BW := Lib.hid B0a
      have QW := Lib.hid (Q2.out.alloc Q2.out.size (.cells #[.int .u64 ((0 : Nat) : Int), .string (st [])] 72))
      clear B0a B8 hg
      go_wp2_with fail
      generalize hW : w2.alloc _ = W at *
      go_region
      go_wp2_with fail
      refine bodyPost_ret (results_cell2 rfl _ _ w.heap.size rfl (tl_blk BW.out _ _) recTy) rfl ?_
      exact tl_none (0, []) HT.out (tl_below QW.out (Nat.le_refl _) _ _)
    | some x =>
      obtain ⟨⟨q, t⟩, n⟩ := x
      unfold rgetV recV
      have HN : Hid (tellsO (D.view a) = if n = s.length ∧ 0 < q then some (q, t) else none) := by rw [Hid, HTV.out]; unfold tellsB; rw [hg]
      have B0a := B0.out.alloc (.cells #[.int .u64 (q : Int), .string (st t)] 72)
      have c0 : (w2.alloc (.cells #[.int .u64 (q : Int), .string (st t)] 72)).cell? ⟨w.heap.size, 0, none⟩ = some (.int .u64 0) := B0a.cell 0
      have c1 : (w2.alloc (.cells #[.int .u64 (q : Int), .string (st t)] 72)).cell? ⟨w.heap.size, 1, none⟩ = some (.string ⟨#[]⟩) := B0a.cell 1
      have cf0 : (w2.alloc (.cells #[.int .u64 (q : Int), .string (st t)] 72)).frozen? ⟨w.heap.size, 0, none⟩ = false := B0a.free 0
      have cf1 : (w2.alloc (.cells #[.int .u64 (q : Int), .string (st t)] 72)).frozen? ⟨w.heap.size, 1, none⟩ = false := B0a.free 1
      have B8 := Blk.new w2 72 #[.int .u64 (q : Int), .string (st t)]
      have d0 : (w2.alloc (.cells #[.int .u64 (q : Int), .string (st t)] 72)).cell? ⟨w2.heap.size, 0, none⟩ = some (.int .u64 (q : Int)) := B8.cell 0
      have d1 : (w2.alloc (.cells #[.int .u64 (q : Int), .string (st t)] 72)).cell? ⟨w2.heap.size, 1, none⟩ = some (.string (st t)) := B8.cell 1
      have df0 : (w2.alloc (.cells #[.int .u64 (q : Int), .string (st t)] 72)).frozen? ⟨w2.heap.size, 0, none⟩ = false := B8.free 0
      have df1 : (w2.alloc (.cells #[.int .u64 (q : Int), .string (st t)] 72)).frozen? ⟨w2.heap.size, 1, none⟩ = false := B8.free 1
      have BW := Lib.hid B0a
      have QW := Lib.hid (Q2.out.alloc Q2.out.size (.cells #[.int .u64 (q : Int), .string (st t)] 72))
      clear B0a B8 hg
      by_cases hns : n = s.length
      · subst hns
        by_cases hq : 0 < q
        · have HT : Hid (tellsO (D.view a) = some (q, t)) := by rw [Hid, HN.out, if_pos ⟨rfl, hq⟩]
          have hqi : (0 : Int) < (q : Int) := by omega
          have hqd : decide (0 < q) = true := by simpa using hq
          clear hq
          go_wp2_with fail
          generalize hW : w2.alloc _ = W at *
          go_region
          go_wp2_with fail
          refine bodyPost_ret (results_cell2 rfl _ _ w.heap.size rfl (tl_blk BW.out _ _) recTy) rfl ?_
          exact tl_some (q, t) HT.out (tl_below QW.out (Nat.le_refl _) _ _)
        · obtain rfl : q = 0 := by omega
          have HT : Hid (tellsO (D.view a) = none) := by rw [Hid, HN.out, if_neg (by omega)]
          clear hq
          go_wp2_with fail
          generalize hW : w2.alloc _ = W at *
          go_region
          go_wp2_with fail
          refine bodyPost_ret (results_cell2 rfl _ _ w.heap.size rfl (tl_blk BW.out _ _) recTy) rfl ?_
          exact tl_none (0, t) HT.out (tl_below QW.out (Nat.le_refl _) _ _)
      · have HT : Hid (tellsO (D.view a) = none) := by rw [Hid, HN.out, if_neg (fun h => hns h.1)]
        have hnb : ((n : Int) == (s.length : Int)) = false := by simp; omega
        clear hns
        go_wp2_with fail
        generalize hW : w2.alloc _ = W at *
        go_region
        go_wp2_with fail
        refine bodyPost_ret (results_cell2 rfl _ _ w.heap.size rfl (tl_blk BW.out _ _) recTy) rfl ?_
        exact tl_none (q, t) HT.out (tl_below QW.out (Nat.le_refl _) _ _)
end Go.Proofs.YtpmndmgfoiagnaaDoor
