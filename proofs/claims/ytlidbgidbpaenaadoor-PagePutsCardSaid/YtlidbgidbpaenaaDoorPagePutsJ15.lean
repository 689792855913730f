/- What the proof of PagePuts needs, part 15. -/
import Derived.Test.YtlidbgidbpaenaaDoorPagePutsJ13
import Derived.Test.YtlidbgidbpaenaaDoorPagePutsJ14
import Derived.BigQuiet
import Derived.Deep.QuietTactic

namespace Go.Proofs.YtlidbgidbpaenaaDoor
open Go Go.RowKit
set_option linter.unusedVariables false

set_option maxHeartbeats 1000000 in
theorem pfind1_any (bp bk : Nat) (S : Nat → Prop) (leaf : Bool) (next : Int) (v0 : Value) (cs : List Cel) (key : List UInt8) (i : Nat) (w : World) (hp : Blk w bp 24 #[.bool leaf, .int .i64 next, v0]) (hk : Blk w bk 9 #[.string (st key)]) (hr : Cs S w v0 cs) (hi : i < cs.length) (hl : cs.length ≤ 1000000) :
    Calls Tryd.prog 53 (#[.int .i64 (i : Int)] ++ #[.pointer (some ⟨bp, 0, none⟩), .pointer (some ⟨bk, 0, none⟩)]) w fun e w' => e = .returned (.bool (!Op.bytesLess cs[i].1 key)) ∧ ∃ m, w' = w.drewN m := by
  obtain ⟨A, c, rfl, hlc, hcm, _, hA⟩ := hr.at
  obtain ⟨b, o, rfl, _, hc⟩ := hA (by omega)
  have c0 := (hc i hi).1
  have p2 : w.cell? ⟨bp, 2, none⟩ = some (.slice (some ⟨b, o, none⟩) cs.length c) := hp.cell 2
  have k0 : w.cell? ⟨bk, 0, none⟩ = some (.string (st key)) := hk.cell 0
  generalize cs[i] = x at *
  clear hA hc hp hk hr
  show Calls _ _ #[.int .i64 (i : Int), .pointer (some ⟨bp, 0, none⟩), .pointer (some ⟨bk, 0, none⟩)] _ _
  go_enter Tryd.func53, Tryd.ntmps53
  go_wp2_with fail
  go_quiet (fail)
  go_wp2_with fail
  go_ret
  exact ⟨rfl, _, rfl⟩

set_option maxHeartbeats 2000000 in
set_option maxRecDepth 100000 in
theorem pfind_any (S : Nat → Prop) (leaf : Bool) (next : Int) (v0 : Value) (cs : List Cel) (key : List UInt8) (w : World) (hl : cs.length ≤ 1000000) (hr : Cs S w v0 cs) (hri : RisesP cs) :
    Calls Tryd.prog 22 #[.agg #[.bool leaf, .int .i64 next, v0], .string (st key)] w fun e w' => e = .returned (.tuple #[.int .i64 (findK cs key : Int), .bool (isK cs key)]) ∧ Below w.heap.size w w' := by
  have HR := Lib.hid hr.lt
  have hlt := hr.lt
  obtain ⟨A, c, rfl, hlc, hcm, hA0, hA⟩ := hlt.at
  have HA := Lib.hid hA
  have b1 : Blk ((w.alloc (.cells #[.bool leaf, .int .i64 next, .slice A cs.length c] 24)).alloc (.cells #[.string (st key)] 9)) w.heap.size 24 #[.bool leaf, .int .i64 next, .slice A cs.length c] := (Blk.new _ _ _).alloc _
  have b2 : Blk ((w.alloc (.cells #[.bool leaf, .int .i64 next, .slice A cs.length c] 24)).alloc (.cells #[.string (st key)] 9)) (w.heap.size + 1) 9 #[.string (st key)] := Blk.new1 _ _ _ _
  have q0 : Below w.heap.size w ((w.alloc (.cells #[.bool leaf, .int .i64 next, .slice A cs.length c] 24)).alloc (.cells #[.string (st key)] 9)) := ((Below.refl _ _).alloc (Nat.le_refl _) _).alloc (by simp) _
  have hmf := run_makeFunc Tryd.prog
  have hK := findK_le cs key
  have HI := Lib.hid (fun i (h : i < cs.length) => findK_iff hri key h)
  clear hA hr hlt hri
  go_enter Tryd.func22, Tryd.ntmps22
  go_wp2_with fail
  generalize hW : ((w.alloc (.cells #[.bool leaf, .int .i64 next, .slice A cs.length c] 24)).alloc (.cells #[.string (st key)] 9)) = W at *
  clear hW
  have HRW := Lib.hid (HR.out.up q0)
  refine (psearch_any 53 #[.pointer (some ⟨w.heap.size, 0, none⟩), .pointer (some ⟨w.heap.size + 1, 0, none⟩)] cs.length (findK cs key) W hl hK (fun args w => by rfl) (fun i m hi => ?_)).mono ?_
  · have h := pfind1_any w.heap.size (w.heap.size + 1) (fun b => b < W.heap.size) leaf next _ cs key i (W.drewN m) b1 b2 HRW.out hi hl
    rw [HI.out i hi] at h
    refine h.mono ?_
    rintro e w' ⟨rfl, m', rfl⟩
    exact ⟨rfl, _, World.drewN_drewN _ _ _⟩
  rintro e w1 ⟨rfl, m, rfl⟩
  have d2 : W.cell? ⟨w.heap.size, 2, none⟩ = some (.slice A cs.length c) := b1.cell 2
  have d3 : W.cell? ⟨w.heap.size + 1, 0, none⟩ = some (.string (st key)) := b2.cell 0
  have HIS : Hid (isK cs key = match cs[findK cs key]? with | some c => c.1 == key | none => false) := rfl
  generalize hKe : findK cs key = K at *
  have HKE := Lib.hid hKe
  clear hKe
  rcases Nat.lt_or_ge K cs.length with hlt | hge
  · obtain ⟨b, o, rfl, hbs, hc⟩ := HA.out (by omega)
    have c0 : W.cell? ⟨b, o + K * 2, none⟩ = some (.string (st cs[K].1)) := (q0.cell (p := ⟨b, o + K * 2, none⟩) hbs).trans (hc K hlt).1
    have HE : Hid (isK cs key = (cs[K].1 == key)) := by rw [Hid, HIS.out, List.getElem?_eq_getElem hlt]
    generalize cs[K].1 = kk at *
    clear hc b1 b2
    go_wp2_with fail
    go_quiet (fail)
    go_wp2_with fail
    go_ret2
    rw [HE.out, HKE.out]
    exact ⟨by simp, below_drewN (below_drewN q0 _) _⟩
  · obtain rfl : K = cs.length := by omega
    have HE : Hid (isK cs key = false) := by rw [Hid, HIS.out, List.getElem?_eq_none (Nat.le_refl _)]
    clear b1 b2
    go_wp2_with fail
    go_quiet (fail)
    go_wp2_with fail
    go_ret2
    rw [HE.out, HKE.out]
    exact ⟨by simp, below_drewN (below_drewN q0 _) _⟩
end Go.Proofs.YtlidbgidbpaenaaDoor
