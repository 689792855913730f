/- The meta page: what the law's example fixes. -/
import Derived.Test.YtpmndmgfoiagnaaDoorMetF
namespace Go.Proofs.YtpmndmgfoiagnaaDoor
open Go Go.RowKit
set_option linter.unusedVariables false

theorem Sv.one {S : Nat → Prop} (w : World) (x y : Int) {g : Nat} (hg : g = w.heap.size) (hS : S g) : Sv S (w.alloc (.cells #[.int .i64 x, .int .i64 y] 68)) (.slice (some ⟨g, 0, none⟩) 1 1) [(x, y)] := by
  subst hg
  refine ⟨rfl, _, _, rfl, Nat.le_refl _, by simp [maxLen], fun h => (by cases h), fun _ => ⟨_, 0, rfl, hS, fun j u hj => ?_⟩⟩
  have hb := Blk.new w 68 #[.int .i64 x, .int .i64 y]
  match j, hj with
  | 0, hj => rw [← Option.some.inj hj]; exact hb.cell 0
  | 1, hj => rw [← Option.some.inj hj]; exact hb.cell 1
  | j + 2, hj => simp [pcs] at hj

theorem rec_one {q : Nat} (hq : q < U64) {c : UInt8} : (recB q [c]).length ≤ (500 : Int).toNat := by
  have h1 := varB_le10 hq
  have h2 := varB_le 1 [c].length (by simp)
  rw [recB_len]
  unfold recF
  rw [List.length_append, List.length_append]
  simp only [List.length_cons, List.length_nil] at h2 ⊢
  omega
theorem dAt3 {D : Dsk} {a : Int} {num : Nat} {last : Int} {body t : List UInt8} (m : Mr D a num last body) (hn : num + 1 < U64) (ht : t.length ≤ 480) :
    (dAt D (a + (1 - last)) (recB (num + 1) t) 3).view = (D.view.del (a + (1 - last))).put (a + (1 - last)) (recB (num + 1) t) ∧ (dAt D (a + (1 - last)) (recB (num + 1) t) 3).ground = D.view.del (a + (1 - last)) := by
  have hw := m.two.why (recB_short hn ht)
  rw [show dAt D (a + (1 - last)) (recB (num + 1) t) 3 = (D.free (a + (1 - last))).sync.write (a + (1 - last)) (recB (num + 1) t) from rfl, write_view hw]
  refine ⟨?_, ?_⟩
  · rw [put_view]
    show (D.free (a + (1 - last))).view.put _ _ = _
    rw [free_view]
  · show (D.free (a + (1 - last))).view = _
    rw [free_view]
theorem awake12_ne {D : Dsk} {a : Int} {num : Nat} {last : Int} {body t : List UInt8} (m : Mr D a num last body) (hn : num + 1 < U64) (ht : t.length ≤ 480) :
    ∃ x, InI x ∧ ((dAt D (a + (1 - last)) (recB (num + 1) t) 3).view x).isSome ≠ ((dAt D (a + (1 - last)) (recB (num + 1) t) 3).ground x).isSome := by
  obtain ⟨h1, h2⟩ := dAt3 m hn ht
  have := m.at
  have := m.a0
  have := m.mi.l01
  refine ⟨a + (1 - last), by unfold InI; omega, ?_⟩
  rw [h1, h2]
  unfold SF.put SF.del
  simp
theorem awake12_pend {D : Dsk} {x : Int} {b : List UInt8} {a : Int} {num : Nat} {last : Int} {body : List UInt8} (m : Mr D a num last body) : (dAt D x b 3).pend.length ≤ 1000000 := by
  have := dAt_pend D x b 3
  have h := m.pend
  rw [h] at this
  simp at this
  omega
theorem Dp.apart {w W W' : World} {h h' h2 : Zn} {D D2 : Dsk} (d2 : Dp w W h2 D2) (d : Dp w W h D) (s : Stp h W h' W') (hne : ∀ b, h.has b → ¬ h2.has b) : Dp w W' h2 D2 :=
  ⟨d2.dk.apart d.dk s hne, d2.new, Turn.below d.below s.turn d.below.size d.new⟩

set_option maxHeartbeats 4000000 in
set_option maxRecDepth 100000 in
theorem awake12_any (w : World) (hb : BitsOk w) : Calls Tryd.prog 7 #[] w fun e w' => e = .returned (.bool true) ∧ Below w.heap.size w w' := by
  have HB := Lib.hid hb
  have MR0 : Hid (Mr (Dsk.new 9) 0 0 1 []) := Mr.start (by omega) (by omega) (by omega) (by omega)
  have u64 : Hid (3 < U64) := by rw [Hid]; unfold U64; omega
  clear hb
  go_enter Tryd.func7, Tryd.ntmps7
  go_wp2_with fail
  refine (dnew_any 9 w (by omega) (by omega)).mono ?_
  rintro e w1 ⟨h, rfl, hd, hnew, hbl⟩
  have D1 : Hid (Dp w w1 h (Dsk.new 9)) := ⟨hd, hnew, hbl⟩
  clear hd hnew hbl
  go_wp2_with fail
  refine (mopen_mp D1.out MR0.out rfl).mono ?_
  rintro e w2 ⟨g, he, hm, -⟩
  rw [if_pos rfl] at he
  subst he
  have M2 := Lib.hid hm
  clear hm
  go_wp2_with fail
  refine (mwrite_mp (t := [97]) M2.out (by have := u64.out; omega) (by simp) HB.out).mono ?_
  rintro e w3 ⟨rfl, h3, D3, hg3, hm⟩
  have M3 := Lib.hid hm
  have G3 := Lib.hid hg3
  clear hm hg3
  go_wp2_with fail
  refine (mwrite_mp (t := [98]) M3.out (by have := u64.out; omega) (by simp) HB.out).mono ?_
  rintro e w4 ⟨rfl, h4, D4, hg4, hm⟩
  have M4 : Hid (Mp w w4 h4 D4 g 0 2 1 [98]) := hm
  have G4 : Hid (h4.g = h.g) := hg4.trans G3.out
  clear hm hg4 G3 M3
  go_wp2_with fail
  refine (msteps_mp (t := [99]) (k := 3) M4.out u64.out (by simp) HB.out (by unfold InI; omega)).mono ?_
  rintro e w5 ⟨rfl, -, h5, hg5, hm⟩
  have M5 : Hid (Mst w w5 h5 (dAt D4 (0 + (1 - 1)) (recB 3 [99]) 3) g 0 2 1) := hm
  have G5 : Hid (h5.g = h.g) := hg5.trans G4.out
  have e5 : decide (stepI 3 = 4) = false := rfl
  clear hm hg5 G4
  go_wp2_with fail
  refine (dcopy_dp M5.out.dp (dAt_ok M4.out.mr.ok _ _ 3) ?hne ?hp G5.out).mono ?_
  case hne => exact awake12_ne M4.out.mr u64.out (by simp)
  case hp => exact awake12_pend M4.out.mr
  rintro e w6 ⟨h6, rfl, hc, hd, hap⟩
  have C6 := Lib.hid hc
  have D6 := Lib.hid hd
  have A6 := Lib.hid hap
  clear hc hd hap
  go_wp2_with fail
  refine (dcrash_dp (S := fun _ => True) (l := []) D6.out (dAt_ok M4.out.mr.ok _ _ 3) Sl.nil (by simp) (by simp) (awake12_pend M4.out.mr) G5.out).mono ?_
  rintro e w7 ⟨rfl, h7, hd, hg7, hs⟩
  have D7 := Lib.hid hd
  have G7 := Lib.hid hg7
  have C7 := Lib.hid (C6.out.apart D6.out hs A6.out)
  have A7 : Hid (∀ b, h6.has b → ¬ h7.has b) := fun b hb hb' => (hs.has b hb').elim (fun h => A6.out b h hb) (fun h => by have := C6.out.dk.lt hb; omega)
  clear hd hg7 hs
  go_wp2_with fail
  have QA := Lib.hid ((Below.refl w7.heap.size w7).alloc (Nat.le_refl _) (.cells #[.int .i64 0, .int .i64 500] 68))
  refine (dcrash_dp (S := fun _ => True) (l := [(0, 500)]) (C7.out.later QA.out) (dAt_ok M4.out.mr.ok _ _ 3) (Sv.one w7 0 500 rfl trivial) (by simp [InI]) (by simp) (awake12_pend M4.out.mr) rfl).mono ?_
  rintro e w8 ⟨rfl, h8, hc, hg8, hs⟩
  have C8 := Lib.hid hc
  have G8 := Lib.hid hg8
  have D8 := Lib.hid ((D7.out.later QA.out).apart (C7.out.later QA.out) hs A7.out)
  clear hc hg8 hs
  go_wp2_with fail
  refine (mopen_mp D8.out ((M4.out.mr.crash3 (t := [99]) u64.out (by simp) []).1 rfl) G7.out).mono ?_
  rintro e w9 ⟨g9, he, -, hb9⟩
  rw [if_neg (by omega)] at he
  subst he
  have C9 := Lib.hid (C8.out.later hb9)
  clear hb9
  go_wp2_with fail
  refine (mopen_mp C9.out ((M4.out.mr.crash3 (t := [99]) u64.out (by simp) [(0, 500)]).2 500 rfl (rec_one u64.out)) G8.out).mono ?_
  rintro e w10 ⟨g10, he, hm, -⟩
  rw [if_neg (by omega)] at he
  subst he
  have M10 := Lib.hid hm
  clear hm
  go_wp2_with fail
  refine (mnumber_any _ g10 0 3 0 w10 M10.out.page).mono ?_
  rintro e w11 ⟨rfl, rfl⟩
  go_wp2_with fail
  go_ret
  exact ⟨rfl, M10.out.dp.below⟩
end Go.Proofs.YtpmndmgfoiagnaaDoor
