/- record.fields, Put, Size: what they return. -/
import Derived.Test.YtpmndmgfoiagnaaDoorCodW
import Derived.Test.YtpmndmgfoiagnaaDoorRecP
import Derived.Test.YtpmndmgfoiagnaaDoorSumC
import Derived.Test.YtpmndmgfoiagnaaDoorGrow
import Derived.Deep.RegionWith
namespace Go.Proofs.YtpmndmgfoiagnaaDoor
open Go Go.RowKit
set_option linter.unusedVariables false

/-- A record's two cells; a record by value. -/
def recC (r : Nat × List UInt8) : Array Value := #[.int .u64 (r.1 : Int), .string (st r.2)]
def recV (r : Nat × List UInt8) : Value := .agg #[.int .u64 (r.1 : Int), .string (st r.2)]

set_option maxHeartbeats 1000000 in
set_option maxRecDepth 100000 in
theorem fields_any (q : Nat) (t : List UInt8) (w : World) (hq : q < U64) (ht : t.length ≤ 65536) :
    Calls Tryd.prog 41 #[.agg #[.int .u64 (q : Int), .string (st t)]] w fun e w' => ∃ A k c, e = .returned (.slice A k c) ∧ Ob 5 w' w.heap.size (.slice A k c) (recF q t) ∧ Below w.heap.size w w' := by
  have hb0 := Blk.new w 72 #[.int .u64 (q : Int), .string (st t)]
  have HQ := Lib.hid hq
  go_enter Tryd.func41, Tryd.ntmps41
  go_wp2_with fail
  refine (write_any _).mono ?_
  rintro e w1 ⟨rfl, hw1, hbl1, hsz1⟩
  have hb1 := hb0.later hbl1
  have q1 : Below w.heap.size w w1 := ((Below.refl w.heap.size w).alloc (Nat.le_refl _) _).trans (hbl1.mono (by simp))
  generalize hG : (w.alloc (.cells #[.int .u64 (q : Int), .string (st t)] 72)).heap.size = G at *
  have hG' : w.heap.size < G := by rw [← hG]; simp
  have hG1 : G < w1.heap.size := by omega
  have HW1 := Lib.hid hw1
  have d0 : w1.cell? ⟨w.heap.size, 0, none⟩ = some (.int .u64 (q : Int)) := hb1.cell 0
  clear hw1 hb0 hq hG hbl1 hsz1
  go_wp2_with fail
  refine (wnum_new G G G [] [q] _ _ (HW1.out.alloc _) (by simp; omega) (fun _ => Nat.le_refl _) (by simp; omega) (by intro y hy; simp at hy; subst hy; exact HQ.out) (by simp) (Sl.new1 w1 _ _ (by simp) ⟨by omega, by simp⟩)).mono ?_
  rintro e w2 ⟨rfl, hw2, hg2⟩
  simp only [List.flatMap_cons, List.flatMap_nil, List.append_nil, List.nil_append] at hw2
  have hb2 := (hb1.alloc (.cells #[.int .u64 (q : Int)] 41)).grown hg2 (by simp; omega)
  have q2 : Below w.heap.size w w2 := (q1.alloc (by omega) _).trans (grown_below hg2 (by omega) (by simp; omega))
  have hs2 := q2.size
  have hg2s : w1.heap.size + 1 ≤ w2.heap.size := by have := hg2.size; simpa using this
  have HW2 := Lib.hid hw2
  have hv10 := varB_le10 HQ.out
  have d1 : w2.cell? ⟨w.heap.size, 1, none⟩ = some (.string (st t)) := hb2.cell 1
  clear hw2 hb1 hg2 HW1 d0
  go_wp2_with fail
  refine (wtext_any G G (varB q) [t] _ _ (HW2.out.alloc _) (by simp; omega) (Nat.le_refl _) (by intro y hy; simp at hy; subst hy; exact ht) (by simp; omega) (Sl.new1 w2 _ _ (by simp) ⟨by omega, by simp⟩)).mono ?_
  rintro e w3 ⟨rfl, hw3, hg3⟩
  simp only [List.flatMap_cons, List.flatMap_nil, List.append_nil] at hw3
  have q3 : Below w.heap.size w w3 := (q2.alloc (by omega) _).trans (grown_below hg3 (by omega) (by simp; omega))
  have hs3 := q3.size
  have HW3 : Hid (Wr w3 G G (recF q t)) := hw3
  have hl3 := textB_len ht
  clear hw3 hb2 hg3 HW2 d1
  go_wp2_with fail
  refine (wbytes_any G G (recF q t) w3 HW3.out (by unfold recF; unfold textB at hl3; rw [List.length_append]; omega)).mono ?_
  rintro e w4 ⟨A4, k4, c4, rfl, hown4, hbl4⟩
  go_wp2_with fail
  go_ret
  exact ⟨A4, k4, c4, rfl, hown4.lower hs3, q3.trans (hbl4.mono hs3)⟩

/-- What record.Put gives: the bytes, or what is wrong. -/
def RPutPost (q : Nat) (t : List UInt8) (w : World) (e : Ending) (w' : World) : Prop :=
  (t.length ≤ 32768 → ∃ A k c, e = .returned (.tuple #[.slice A k c, .int .i64 0]) ∧ Ob 5 w' w.heap.size (.slice A k c) (recB q t)) ∧
  (32768 < t.length → e = .returned (.tuple #[.slice none 0 0, .int .i64 70])) ∧ Below w.heap.size w w'

set_option maxHeartbeats 1000000 in
set_option maxRecDepth 100000 in
theorem rput_any (q : Nat) (t : List UInt8) (w : World) (hq : q < U64) (hb : BitsOk w) (ht : t.length ≤ 1099511627776) :
    Calls Tryd.prog 23 #[.agg #[.int .u64 (q : Int), .string (st t)]] w (RPutPost q t w) := by
  have hb0 := Blk.new w 72 #[.int .u64 (q : Int), .string (st t)]
  have HQ := Lib.hid hq
  have d1 : (w.alloc (.cells #[.int .u64 (q : Int), .string (st t)] 72)).cell? ⟨w.heap.size, 1, none⟩ = some (.string (st t)) := hb0.cell 1
  have q0 : Below w.heap.size w (w.alloc (.cells #[.int .u64 (q : Int), .string (st t)] 72)) := (Below.refl _ _).alloc (Nat.le_refl _) _
  by_cases hl : 32768 < t.length
  · go_enter Tryd.func23, Tryd.ntmps23
    go_wp2_with fail
    go_ret2
    exact ⟨fun h => (by omega), fun _ => rfl, q0⟩
  · have hb' := Lib.hid (hb.later q0)
    have hF := Lib.hid (recF_len HQ.out (show t.length ≤ 32768 by omega))
    clear hb
    have c0 : (w.alloc (.cells #[.int .u64 (q : Int), .string (st t)] 72)).cell? ⟨w.heap.size, 0, none⟩ = some (.int .u64 (q : Int)) := hb0.cell 0
    go_enter Tryd.func23, Tryd.ntmps23
    go_wp2_with fail
    refine (fields_any q t _ HQ.out (by omega)).mono ?_
    rintro e w1 ⟨A1, k1, c1, rfl, hown1, hbl1⟩
    have HO1 := Lib.hid hown1
    have HB1 := Lib.hid (hb'.out.later hbl1)
    have q1 := q0.trans (hbl1.mono q0.size)
    have hs1 := q1.size
    clear hown1 hbl1
    go_wp2_with fail
    refine (seal_any _ _ (recF q t) w1 HB1.out (by have := hF.out; omega) HO1.out.bs).mono ?_
    rintro e w2 ⟨A2, k2, c2, rfl, hown2, hbl2⟩
    obtain rfl := hown2.len
    have HO2 : Hid (Ob 5 w2 w1.heap.size (.slice A2 (recS q t).length c2) (recS q t)) := hown2
    have HB2 := Lib.hid (HB1.out.later hbl2)
    have q2 := q1.trans (hbl2.mono hs1)
    have hs2 := q2.size
    have HL : (recS q t).length ≤ 32804 := by rw [recS_len]; have := hF.out; omega
    have hwr : IntKind.u64.wrap ((recS q t).length : Int) = ((recS q t).length : Int) := wrap_u64 (by omega) (by unfold U64; omega)
    rw [show recF q t ++ beB (sumOf (recF q t)).toNat 4 = recS q t from rfl]
    clear hown2 hbl2 HO1 HB1
    have HR : Hid (beB (recS q t).length 4 ++ recS q t = recB q t) := rfl
    generalize recS q t = sl at *
    go_wp2_with fail
    refine (put_ok (fun _ => True) _ [] sl.length 4 w2 (by omega) (by omega) (by unfold U64; omega) (fun _ => by omega) HB2.out (by simp) (Bs.nilv _ _)).mono ?_
    rintro e w3 ⟨A3, k3, c3, rfl, hown3, hbl3⟩
    rw [List.nil_append] at hown3
    have HO3 := Lib.hid (HO2.out.later hbl3)
    have q3 := q2.trans (hbl3.mono hs2)
    have hs3 := hbl3.size
    clear hbl3
    go_wp2_with (at_builtin; go_loud (refine wpList_append_bs _ rfl (.tmp 21) (.tmp 22) elemU8 rfl hown3 HO3.out.bs rfl rfl (by rw [beB_length]; omega) hs3 ?_); intro A4 k4 c4 w4 hown4 hg4 hat4)
    go_ret2
    rw [HR.out] at hown4
    exact ⟨fun _ => ⟨A4, k4, c4, rfl, hown4.lower hs2⟩, fun h => (by omega), q3.grown hg4 (by omega) (fun k hk => by have := (hown3.lt k hk).1; omega)⟩

end Go.Proofs.YtpmndmgfoiagnaaDoor
