/- record.Scan: what it returns. -/
import Derived.Test.YtikpjikfbgjdfaaDoorRecB
import Derived.BigQuiet
import Derived.Deep.QuietTactic
namespace Go.Proofs.YtikpjikfbgjdfaaDoor
open Go Go.RowKit
set_option linter.unusedVariables false

theorem Ro.nil (w : World) (B : Nat) : Ro w B (.slice none 0 0) [] := World.ownsRow_nil w B _ 2
theorem Ro.later {w w' : World} {B : Nat} {v : Value} {rs : List (Nat × List UInt8)} (h : Ro w B v rs) (hb : Below w.heap.size w w') : Ro w' B v rs := by
  obtain ⟨h1, h2⟩ := h
  refine ⟨h1, ?_⟩
  rcases h2 with h2 | ⟨g, cap, cur, hv, hg, hh, r⟩
  · exact .inl h2
  · exact .inr ⟨g, cap, cur, hv, hg, (hb.block g (lt_of_block hh)).trans hh, r⟩
theorem Ro.len {w : World} {B : Nat} {A : Option Addr} {k c : Nat} {rs : List (Nat × List UInt8)} (h : Ro w B (.slice A k c) rs) : k = rs.length := own_len h

theorem recScan_none {k : Nat} {l : List UInt8} {f : Nat} (h : recGet l = none) : recScan (k + 1) l f = ([], 0) := by rw [recScan, h]
theorem recScan_other {k : Nat} {l : List UInt8} {f : Nat} {r : Nat × List UInt8} {n : Nat} (h : recGet l = some (r, n)) (hq : ¬ r.1 = f % U64) : recScan (k + 1) l f = ([], 0) := by
  rw [recScan, h]; simp only; rw [if_neg hq]
theorem recScan_some {k : Nat} {l : List UInt8} {f : Nat} {r : Nat × List UInt8} {n : Nat} (h : recGet l = some (r, n)) (hq : r.1 = f % U64) :
    recScan (k + 1) l f = (r :: (recScan k (l.drop n) (f + 1)).1, n + (recScan k (l.drop n) (f + 1)).2) := by
  rw [recScan, h]; simp only; rw [if_pos hq]

/-- What holds behind i rounds: these records, so many bytes. -/
structure ScSt (l : List UInt8) (first i : Nat) (rs : List (Nat × List UInt8)) (a : Nat) : Prop where
  le : a ≤ l.length
  len : rs.length ≤ i
  all : recScan l.length l first = (rs ++ (recScan (l.length - i) (l.drop a) (first + i)).1, a + (recScan (l.length - i) (l.drop a) (first + i)).2)
theorem ScSt.zero (l : List UInt8) (first : Nat) : ScSt l first 0 [] 0 := ⟨Nat.zero_le _, Nat.le_refl _, by simp⟩
theorem ScSt.stop {l : List UInt8} {first i : Nat} {rs : List (Nat × List UInt8)} {a : Nat} (h : ScSt l first i rs a) (hi : i < l.length) (hn : recScan (l.length - i - 1 + 1) (l.drop a) (first + i) = ([], 0)) : recScan l.length l first = (rs, a) := by
  rw [h.all, show l.length - i = l.length - i - 1 + 1 by omega, hn]; simp
theorem ScSt.next {l : List UInt8} {first i : Nat} {rs : List (Nat × List UInt8)} {a : Nat} (h : ScSt l first i rs a) (hi : i < l.length) {r : Nat × List UInt8} {n : Nat} (hg : recGet (l.drop a) = some (r, n)) (hq : r.1 = (first + i) % U64) : ScSt l first (i + 1) (rs ++ [r]) (a + n) := by
  have hn := recGet_len hg
  rw [List.length_drop] at hn
  refine ⟨by have := h.le; omega, by have := h.len; rw [List.length_append, List.length_singleton]; omega, ?_⟩
  rw [h.all, show l.length - i = l.length - (i + 1) + 1 by omega, recScan_some hg hq, List.drop_drop, ← Nat.add_assoc]
  simp [Nat.add_assoc]
theorem ScSt.end {l : List UInt8} {first : Nat} {rs : List (Nat × List UInt8)} {a : Nat} (h : ScSt l first l.length rs a) : recScan l.length l first = (rs, a) := by
  rw [h.all, Nat.sub_self, recScan]; simp

theorem u64_add (a b : Nat) : IntKind.u64.wrap ((a : Int) + (b : Int)) = (((a + b) % U64 : Nat) : Int) := by
  simp only [IntKind.wrap, IntKind.bits, IntKind.signed]
  rw [Int.natCast_emod]
  rfl

set_option maxHeartbeats 2000000 in
set_option maxRecDepth 100000 in
theorem rscan_any (S : Nat → Prop) (v0 : Value) (l : List UInt8) (first : Nat) (w : World) (hl : l.length ≤ 1099511627776) (hf : first < U64) (hr : Bs S w v0 l) :
    Calls Tryd.prog 14 #[v0, .int .u64 first] w fun e w' => ∃ A k c, e = .returned (.tuple #[.slice A k c, .int .i64 ((recScan l.length l first).2 : Int)]) ∧ Ro w' w.heap.size (.slice A k c) (recScan l.length l first).1 ∧ Below w.heap.size w w' := by
  have HR : Hid (Bs (fun b => b < w.heap.size) w v0 l) := (Sl.lt hr (by omega)).more (fun _ h => h.2)
  obtain ⟨A, c, rfl, hlc, hcm, hA0, hA⟩ := hr.at
  have HA := Lib.hid hA
  have hmf := run_makeFunc Tryd.prog
  have HF : Hid (first < U64) := hf
  have R0 : Blk ((w.alloc (.cells #[.slice none 0 0] 38)).alloc (.cells #[.int .i64 ((0 : Nat) : Int)] 3)) w.heap.size 38 #[.slice none 0 0] ∧
      Blk ((w.alloc (.cells #[.slice none 0 0] 38)).alloc (.cells #[.int .i64 ((0 : Nat) : Int)] 3)) (w.heap.size + 1) 3 #[.int .i64 ((0 : Nat) : Int)] ∧
      Below w.heap.size w ((w.alloc (.cells #[.slice none 0 0] 38)).alloc (.cells #[.int .i64 ((0 : Nat) : Int)] 3)) := by
    refine ⟨(Blk.new w _ _).alloc _, ?_, ((Below.refl _ _).alloc (Nat.le_refl _) _).alloc (by simp) _⟩
    have := Blk.new (w.alloc (.cells #[.slice none 0 0] 38)) 3 #[.int .i64 ((0 : Nat) : Int)]
    simpa using this
  clear hA hr hA0 hf
  go_enter Tryd.func14, Tryd.ntmps14
  go_wp2_with fail
  go_loopw [16] (fun iv wr => ∃ (i : Nat) (A' : Option Addr) (k' c' : Nat) (rs : List (Nat × List UInt8)) (a : Nat), iv = .int .i64 (i : Int) ∧ i ≤ l.length ∧ Blk wr w.heap.size 38 #[.slice A' k' c'] ∧ Blk wr (w.heap.size + 1) 3 #[.int .i64 (a : Int)] ∧
    Ro wr w.heap.size (.slice A' k' c') rs ∧ ScSt l first i rs a ∧ Below w.heap.size w wr) (fun iv _ => l.length - (intOf iv).toNat)
  case atStart => exact ⟨0, none, 0, 0, [], 0, rfl, by omega, R0.1, R0.2.1, Ro.nil _ _, ScSt.zero _ _, R0.2.2⟩
  case round =>
    obtain ⟨i, A', k', c', rs, a, rfl, hi, hbl, hba, hro, hst, hbw⟩ := hrel
    clear R0
    have hsz := hbw.size
    by_cases hil : i < l.length
    · obtain ⟨b, o, rfl, _, _⟩ := HA.out (by omega)
      have hal := hst.le
      have hst0 := hst.len
      have e2 : Hid (a + (l.drop a).length ≤ l.length) := by rw [Hid, List.length_drop]; omega
      have c1 : wr.cell? ⟨w.heap.size + 1, 0, none⟩ = some (.int .i64 (a : Int)) := hba.cell 0
      have hcut := Bs.cut (Sl.below HR.out hbw (fun _ h => h)) hal
      have HST := Lib.hid hst
      have HBL := Lib.hid hbl
      have HBA := Lib.hid hba
      have HRO := Lib.hid hro
      have hdl : (l.drop a).length ≤ 1099511627776 := by rw [List.length_drop]; omega
      clear hst hbl hba hro
      obtain ⟨m, hm⟩ : ∃ m, l.drop a = m := ⟨_, rfl⟩
      have HM := Lib.hid hm
      rw [hm] at hcut hdl e2
      clear hm
      by_cases hca : c = a
      case' pos =>
        rw [if_pos hca] at hcut
        subst hca
        rw [Nat.sub_self, show l.length - c = 0 by omega] at hcut
        have HC := Lib.hid hcut
        clear hcut
        go_wp2_with fail
        refine (rget_any _ _ m wr hdl HC.out).mono ?_
      case' neg =>
        rw [if_neg hca] at hcut
        have HC := Lib.hid hcut
        clear hcut
        go_wp2_with fail
        refine (rget_any _ _ m wr hdl HC.out).mono ?_
      all_goals
        rintro e w1 ⟨rfl, hbl1⟩
        cases hg : recGet m with
        | none =>
          have HE := Lib.hid (HST.out.stop hil (recScan_none (by rw [HM.out]; exact hg)))
          have HRO1 := Lib.hid (HRO.out.later hbl1)
          have hb1 := (HBL.out.later hbl1).alloc (.cells #[.int .u64 0, .string (st [])] 24)
          have hb2 := (HBA.out.later hbl1).alloc (.cells #[.int .u64 0, .string (st [])] 24)
          have e0 : (w1.alloc (.cells #[.int .u64 0, .string (st [])] 24)).cell? ⟨w.heap.size, 0, none⟩ = some (.slice A' k' c') := hb1.cell 0
          have e1 := hb2.cell 0
          have q1 := hbw.trans (hbl1.mono hsz)
          unfold rgetV recV
          clear hbl1 c1 hg
          go_wp2_with fail
          go_quiet (fail)
          go_wp2_with fail
          go_ret2
          rw [HE.out]
          exact ⟨A', k', c', rfl, HRO1.out.later (below_drewN ((Below.refl _ _).alloc (Nat.le_refl _) _) _), below_drewN (q1.alloc q1.size _) _⟩
        | some rn =>
          obtain ⟨⟨q, t⟩, n⟩ := rn
          have hgl := recGet_len hg
          have HRO1 := Lib.hid (HRO.out.later hbl1)
          have hb1 := (HBL.out.later hbl1).alloc (.cells #[.int .u64 (q : Int), .string (st t)] 24)
          have hb2 := (HBA.out.later hbl1).alloc (.cells #[.int .u64 (q : Int), .string (st t)] 24)
          have q1 := hbw.trans (hbl1.mono hsz)
          have hwr : IntKind.u64.wrap ((first : Int) + (i : Int)) = (((first + i) % U64 : Nat) : Int) := u64_add first i
          by_cases hq : q = (first + i) % U64
          · have HE := Lib.hid (HST.out.next hil (r := (q, t)) (n := n) (by rw [HM.out]; exact hg) hq)
            have HM2 := Lib.hid hgl
            rw [← hq] at hwr
            have HRL := Lib.hid hst0
            unfold rgetV recV
            clear hbl1 c1 hg hq
            have q2 := q1.alloc q1.size (.cells #[.int .u64 (q : Int), .string (st t)] 24)
            have hs2 := q2.size
            go_wp2_with fail
            refine (keep_any w.heap.size (w.heap.size + 1) w.heap.size _ _ _ rs (q, t) n _ _ hb1 hb2 (HRO1.out.later ((Below.refl _ _).alloc (Nat.le_refl _) _)) hs2 (Nat.le_refl _) (by omega) (by have := HRL.out; omega) (by have := HM2.out.2; have := e2.out; omega)).mono ?_
            rintro e w3 ⟨rfl, A3, k3, c3, hbl3, hba3, hro3, hbw3⟩
            go_wp2_with fail
            go_roundw
            case rel => exact ⟨i + 1, A3, k3, c3, _, _, by go_num, by omega, hbl3, hba3, hro3, HE.out, q2.trans hbw3⟩
            case measure => simp [intOf]; omega
          · have HE := Lib.hid (HST.out.stop hil (recScan_other (by rw [HM.out]; exact hg) hq))
            have e0 : (w1.alloc (.cells #[.int .u64 (q : Int), .string (st t)] 24)).cell? ⟨w.heap.size, 0, none⟩ = some (.slice A' k' c') := hb1.cell 0
            have e1 := hb2.cell 0
            have t1 : ((q : Int) != (((first + i) % U64 : Nat) : Int)) = true := by rw [bne_iff_ne]; omega
            generalize (first + i) % U64 = fi at *
            unfold rgetV recV
            clear hbl1 c1 hg hq
            go_wp2_with fail
            go_quiet (fail)
            go_wp2_with fail
            go_ret2
            rw [HE.out]
            exact ⟨A', k', c', rfl, HRO1.out.later (below_drewN ((Below.refl _ _).alloc (Nat.le_refl _) _) _), below_drewN (q1.alloc q1.size _) _⟩
    · obtain rfl : i = l.length := by omega
      have HE := Lib.hid hst.end
      have c0 : wr.cell? ⟨w.heap.size, 0, none⟩ = some (.slice A' k' c') := hbl.cell 0
      have c1 : wr.cell? ⟨w.heap.size + 1, 0, none⟩ = some (.int .i64 (a : Int)) := hba.cell 0
      go_wp2_with fail
      go_quiet (fail)
      go_wp2_with fail
      go_ret2
      rw [HE.out]
      exact ⟨A', k', c', rfl, hro, below_drewN hbw _⟩
end Go.Proofs.YtikpjikfbgjdfaaDoor
