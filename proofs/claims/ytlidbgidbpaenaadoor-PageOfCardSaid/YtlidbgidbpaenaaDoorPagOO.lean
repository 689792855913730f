/- PageOf: the walk. -/
import Derived.Test.YtlidbgidbpaenaaDoorPagO
import Derived.Test.YtlidbgidbpaenaaDoorPagN
namespace Go.Proofs.YtlidbgidbpaenaaDoor
open Go Go.RowKit
set_option linter.unusedVariables false

set_option maxHeartbeats 4000000 in
set_option maxRecDepth 100000 in
theorem law_PageOf (l : List UInt8) (w : World) (hb : BitsOk w) (hl0 : l.length ≤ 9223372036854775807) :
    Calls Tryd.prog 4 #[.string (st l)] w fun e w' => e = .returned (.bool true) ∧ Below w.heap.size w w' := by
  have HB := Lib.hid hb
  by_cases hl : 3000 < l.length
  · go_enter Tryd.func4, Tryd.ntmps4
    go_wp2_with fail
    refine (awake10_any _ HB.out).mono ?_
    rintro e w5 ⟨rfl, hbl⟩
    go_wp2_with fail
    go_ret
    exact ⟨rfl, hbl⟩
  · clear hb
    have ml : l.length ≤ maxLen := by unfold maxLen; omega
    go_enter Tryd.func4, Tryd.ntmps4
    go_wp2_with (refine wpList_bytes_of_st _ rfl (.tmp 12) rfl tS tB tU ml rfl ?_; intro A1 c1 w1 hbs hbl hsz)
    have q := hbl
    have HB := Lib.hid (HB.out.later hbl)
    clear hbl
    refine (pgof_any _ _ l w1 (by omega) hbs).mono ?_
    rintro e w2 ⟨hsome, hnone, hbl⟩
    have q := q.trans (hbl.mono q.size)
    have HB := Lib.hid (HB.out.later hbl)
    clear hbl hbs hsz
    cases hO : pgOfB l with
    | some x =>
      obtain ⟨b, n, cs⟩ := x
      obtain ⟨v2, rfl, ⟨A2, c2, rfl, hc2⟩⟩ := hsome b n cs hO
      have hca := Lib.hid (Sl.more hc2 (fun b h => h.2))
      have HC2 : Hid (Cs (fun b => b < w2.heap.size) w2 (.slice A2 cs.length c2) cs) := Sl.more hc2 (fun b h => h.2)
      have b3 := Blk.new w2 24 #[.bool b, .int .i64 (n : Int), .slice A2 cs.length c2]
      have q3 := (Below.refl w2.heap.size w2).alloc (Nat.le_refl _) (.cells #[.bool b, .int .i64 (n : Int), .slice A2 cs.length c2] 24)
      have q := q.trans (q3.mono q.size)
      have HB := Lib.hid (HB.out.later q3)
      have HC2 := Lib.hid (HC2.out.up q3)
      clear hsome hnone hc2 hca q3
      go_wp2_with fail
      generalize hW : w2.alloc (.cells #[.bool b, .int .i64 (n : Int), .slice A2 cs.length c2] 24) = W2 at *
      clear hW
      refine (refPgOf_any l W2 (by omega)).mono ?_
      rintro e w4 ⟨hsome, hnone, hbl⟩
      have q := q.trans (hbl.mono q.size)
      have b3 := b3.later hbl
      have HB := Lib.hid (HB.out.later hbl)
      have HC2 := Lib.hid (HC2.out.up hbl)
      obtain ⟨v4, rfl, ⟨A4, c4, rfl, hc4⟩⟩ := hsome b n cs hO
      have HC4 : Hid (Cs (fun b => b < w4.heap.size) w4 (.slice A4 cs.length c4) cs) := Sl.more hc4 (fun b h => h.2)
      have b5 := Blk.new w4 24 #[.bool b, .int .i64 (n : Int), .slice A4 cs.length c4]
      have b3 := b3.alloc (.cells #[.bool b, .int .i64 (n : Int), .slice A4 cs.length c4] 24)
      have q3 := (Below.refl w4.heap.size w4).alloc (Nat.le_refl _) (.cells #[.bool b, .int .i64 (n : Int), .slice A4 cs.length c4] 24)
      have q := q.trans (q3.mono q.size)
      have HB := Lib.hid (HB.out.later q3)
      have HC2 := Lib.hid (HC2.out.up q3)
      have HC4 := Lib.hid (HC4.out.up q3)
      clear hsome hnone hc4 q3 hbl hO
      go_wp2_with fail
      generalize hW : w4.alloc (.cells #[.bool b, .int .i64 (n : Int), .slice A4 cs.length c4] 24) = W4 at *
      clear hW
      refine (awake10_any W4 HB.out).mono ?_
      rintro e w6 ⟨rfl, hbl⟩
      have q := q.trans (hbl.mono q.size)
      have b3 := b3.later hbl
      have b5 := b5.later hbl
      have HC2 := Lib.hid (HC2.out.up hbl)
      have HC4 := Lib.hid (HC4.out.up hbl)
      have p0 : (w6).cell? ⟨w2.heap.size, 0, none⟩ = some (.bool b) := b3.cell 0
      have p1 : (w6).cell? ⟨w2.heap.size, 1, none⟩ = some (.int .i64 (n : Int)) := b3.cell 1
      have p2 : (w6).cell? ⟨w2.heap.size, 2, none⟩ = some (.slice A2 cs.length c2) := b3.cell 2
      have r0 : (w6).cell? ⟨w4.heap.size, 0, none⟩ = some (.bool b) := b5.cell 0
      have r1 : (w6).cell? ⟨w4.heap.size, 1, none⟩ = some (.int .i64 (n : Int)) := b5.cell 1
      have r2 : (w6).cell? ⟨w4.heap.size, 2, none⟩ = some (.slice A4 cs.length c4) := b5.cell 2
      clear hbl
      go_wp2_with fail
      refine (refPSame_at true _ _ b b n n _ _ cs cs w6 HC2.out HC4.out (by simp)).mono ?_
      rintro e w7 ⟨rfl, hbl⟩
      go_wp2_with fail
      go_ret
      exact ⟨rfl, q.trans (hbl.mono q.size)⟩
    | none =>
      obtain rfl := hnone hO
      have hz : ∀ (w : World), Cs (fun b => b < w.heap.size) w (.slice none 0 0) [] := fun _ => Sl.nil
      have HZ := Lib.hid hz
      have b3 := Blk.new w2 24 #[.bool false, .int .i64 0, .slice none 0 0]
      have q3 := (Below.refl w2.heap.size w2).alloc (Nat.le_refl _) (.cells #[.bool false, .int .i64 0, .slice none 0 0] 24)
      have q := q.trans (q3.mono q.size)
      have HB := Lib.hid (HB.out.later q3)
      clear hsome hnone q3 hz
      go_wp2_with fail
      generalize hW : w2.alloc (.cells #[.bool false, .int .i64 0, .slice none 0 0] 24) = W2 at *
      clear hW
      refine (refPgOf_any l W2 (by omega)).mono ?_
      rintro e w4 ⟨hsome, hnone, hbl⟩
      have q := q.trans (hbl.mono q.size)
      have b3 := b3.later hbl
      have HB := Lib.hid (HB.out.later hbl)
      obtain rfl := hnone hO
      have b5 := Blk.new w4 24 #[.bool false, .int .i64 0, .slice none 0 0]
      have b3 := b3.alloc (.cells #[.bool false, .int .i64 0, .slice none 0 0] 24)
      have q3 := (Below.refl w4.heap.size w4).alloc (Nat.le_refl _) (.cells #[.bool false, .int .i64 0, .slice none 0 0] 24)
      have q := q.trans (q3.mono q.size)
      have HB := Lib.hid (HB.out.later q3)
      clear hsome hnone q3 hbl hO
      go_wp2_with fail
      generalize hW : w4.alloc (.cells #[.bool false, .int .i64 0, .slice none 0 0] 24) = W4 at *
      clear hW
      refine (awake10_any W4 HB.out).mono ?_
      rintro e w6 ⟨rfl, hbl⟩
      have q := q.trans (hbl.mono q.size)
      have b3 := b3.later hbl
      have b5 := b5.later hbl
      have p0 : (w6).cell? ⟨w2.heap.size, 0, none⟩ = some (.bool false) := b3.cell 0
      have p1 : (w6).cell? ⟨w2.heap.size, 1, none⟩ = some (.int .i64 0) := b3.cell 1
      have p2 : (w6).cell? ⟨w2.heap.size, 2, none⟩ = some (.slice none 0 0) := b3.cell 2
      have r0 : (w6).cell? ⟨w4.heap.size, 0, none⟩ = some (.bool false) := b5.cell 0
      have r1 : (w6).cell? ⟨w4.heap.size, 1, none⟩ = some (.int .i64 0) := b5.cell 1
      have r2 : (w6).cell? ⟨w4.heap.size, 2, none⟩ = some (.slice none 0 0) := b5.cell 2
      clear hbl
      go_wp2_with fail
      refine (refPSame_at true _ _ false false 0 0 _ _ [] [] w6 (HZ.out _) (HZ.out _) (by simp)).mono ?_
      rintro e w7 ⟨rfl, hbl⟩
      go_wp2_with fail
      go_ret
      exact ⟨rfl, q.trans (hbl.mono q.size)⟩
end Go.Proofs.YtlidbgidbpaenaaDoor
