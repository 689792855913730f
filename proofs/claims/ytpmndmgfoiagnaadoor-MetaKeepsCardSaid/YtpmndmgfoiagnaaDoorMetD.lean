/- The meta page: Steps. -/
import Derived.Test.YtpmndmgfoiagnaaDoorMetC
import Derived.Test.YtpmndmgfoiagnaaDoorRecA
import Derived.Laws.EntriesVeiled
import Derived.BigRegion
namespace Go.Proofs.YtpmndmgfoiagnaaDoor
open Go Go.RowKit
set_option linter.unusedVariables false

/-- Behind i of the steps. -/
def dAt (D : Dsk) (x : Int) (b : List UInt8) : Nat → Dsk
  | 0 => D
  | 1 => D.free x
  | 2 => (D.free x).sync
  | 3 => (D.free x).sync.write x b
  | _ => ((D.free x).sync.write x b).sync
theorem dAt_ok {D : Dsk} (h : D.Ok) (x : Int) (b : List UInt8) : ∀ i, (dAt D x b i).Ok
  | 0 => h
  | 1 => h.free x
  | 2 => (h.free x).sync
  | 3 => (h.free x).sync.write x b
  | _ + 4 => ((h.free x).sync.write x b).sync
theorem free_pend (D : Dsk) (x : Int) : (D.free x).pend.length ≤ D.pend.length + 1 := by
  unfold Dsk.free
  split
  · simp [Dsk.put]
  · omega
theorem write_pend (D : Dsk) (x : Int) (b : List UInt8) : (D.write x b).pend.length ≤ D.pend.length + 1 := by
  unfold Dsk.write
  split
  · simp [Dsk.put]
  · omega
theorem dAt_pend (D : Dsk) (x : Int) (b : List UInt8) : ∀ i, (dAt D x b i).pend.length ≤ D.pend.length + 1
  | 0 => Nat.le_succ _
  | 1 => free_pend D x
  | 2 => Nat.zero_le _
  | 3 => by have := write_pend (D.free x).sync x b; have e : (D.free x).sync.pend.length = 0 := rfl; show ((D.free x).sync.write x b).pend.length ≤ _; omega
  | _ + 4 => Nat.zero_le _
section
variable {D : Dsk} {a : Int} {num : Nat} {last : Int} {body : List UInt8} {k : Int}
theorem mtSteps_long (h : 480 < body.length) : mtSteps D a num last body k = ⟨D, num, last, false, 120⟩ := by unfold mtSteps; rw [if_pos h]
theorem mtSteps_stop {i : Nat} (h : ¬ 480 < body.length) (h3 : i ≤ 3) (hk : k ≤ (i : Int)) (hi : i = 0 ∨ (i : Int) ≤ k) (hw : 3 ≤ i → (dAt D (a + (1 - last)) (recB ((num + 1) % U64) body) 2).why (a + (1 - last)) (recB ((num + 1) % U64) body) = 0) :
    mtSteps D a num last body k = ⟨dAt D (a + (1 - last)) (recB ((num + 1) % U64) body) i, num, last, false, 0⟩ := by
  unfold mtSteps
  rw [if_neg h]
  match i, h3 with
  | 0, _ => rw [if_pos (by omega)]; rfl
  | 1, _ => rw [if_neg (by omega), if_pos (by omega)]; rfl
  | 2, _ => rw [if_neg (by omega), if_neg (by omega), if_pos (by omega)]; rfl
  | 3, _ => rw [if_neg (by omega), if_neg (by omega), if_neg (by omega), if_neg (fun h => h (hw (by omega))), if_pos (by omega)]; rfl
theorem mtSteps_err (h : ¬ 480 < body.length) (hk : 2 < k) (hw : (dAt D (a + (1 - last)) (recB ((num + 1) % U64) body) 2).why (a + (1 - last)) (recB ((num + 1) % U64) body) ≠ 0) :
    mtSteps D a num last body k = ⟨dAt D (a + (1 - last)) (recB ((num + 1) % U64) body) 2, num, last, false, (dAt D (a + (1 - last)) (recB ((num + 1) % U64) body) 2).why (a + (1 - last)) (recB ((num + 1) % U64) body)⟩ := by
  unfold mtSteps
  rw [if_neg h, if_neg (by omega), if_neg (by omega), if_neg (by omega)]
  exact if_pos hw
theorem mtSteps_done (h : ¬ 480 < body.length) (hk : 3 < k) (hw : (dAt D (a + (1 - last)) (recB ((num + 1) % U64) body) 2).why (a + (1 - last)) (recB ((num + 1) % U64) body) = 0) :
    mtSteps D a num last body k = ⟨dAt D (a + (1 - last)) (recB ((num + 1) % U64) body) 4, (num + 1) % U64, 1 - last, true, 0⟩ := by
  unfold mtSteps
  rw [if_neg h, if_neg (by omega), if_neg (by omega), if_neg (by omega), if_neg (fun h => h hw), if_neg (by omega)]
  rfl
end
/-- A block of yet another kind turned. -/
theorem Dk.other {w w' : World} {h : Zn} {D : Dsk} (d : Dk w h D) {z : Nat} {t : TypeId} (hz : kindAt w z = some (some t)) (ht : t ∉ [65, 84, 3, 75, 5]) (hg : w.grownBy w' (some z)) : Dk w' h D := by
  simp only [List.mem_cons, List.not_mem_nil, or_false, not_or] at ht
  obtain ⟨t1, t2, t3, t4, t5⟩ := ht
  obtain ⟨vs, h1, h2⟩ := d.pend
  have ne : ∀ {b : Nat} {k : Option TypeId}, kindAt w b = some k → k ≠ some t → b ≠ z := fun hb hk e => by subst e; rw [hz] at hb; injection hb with hb; exact hk hb.symm
  refine ⟨d.blk.grown hg (fun e => ?_), d.view.other (ne d.view.kind (by simp)) (by rw [hz]; simpa using t5) hg, d.ground.other (ne d.ground.kind (by simp)) (by rw [hz]; simpa using t5) hg, d.ne, vs, h1.other (fun e => ?_) hg, h2.keep fun v p hp => hp.other (fun s hs => ?_) hg⟩
  · injection e with e
    subst e
    have := kind_blk d.blk
    rw [hz] at this
    injection this with this
    injection this with this
    exact t1 this
  · have := kind_own h1 e
    rw [hz] at this
    injection this with this
    injection this with this
    exact t2 this
  · rw [hz]
    intro e
    injection e with e
    injection e with e
    subst e
    simp only [pnKinds, List.mem_cons, List.not_mem_nil, or_false] at hs
    rcases hs with h | h | h
    · exact t3 h
    · exact t4 h
    · exact t5 h
/-- A call on the meta page: the disk, the page's own block. -/
structure Mtp (h : Zn) (gm : Nat) (w : World) (h' : Zn) (w' : World) : Prop where
  g : h'.g = h.g
  turn : Turn (fun b => h.has b ∨ b = gm) w w'
  has : ∀ b, h'.has b → h.has b ∨ w.heap.size ≤ b
theorem Mtp.of_stp {h h' : Zn} {g : Nat} {w w' : World} (s : Stp h w h' w') : Mtp h g w h' w' := ⟨s.g, s.turn.mono fun b hb _ => .inl hb, s.has⟩
def MsPost (h : Zn) (D : Dsk) (g : Nat) (a : Int) (num : Nat) (last : Int) (body : List UInt8) (k : Int) (w : World) (e : Ending) (w' : World) : Prop :=
  e = .returned (.tuple #[.bool (mtSteps D a num last body k).done, .int .i64 ((mtSteps D a num last body k).err : Nat)]) ∧
    ∃ h', Dk w' h' (mtSteps D a num last body k).D ∧ Mk w' g h' a (mtSteps D a num last body k).num (mtSteps D a num last body k).last ∧ Mtp h g w h' w'
theorem ms_fin {h h' : Zn} {D : Dsk} {g : Nat} {a : Int} {num : Nat} {last : Int} {body : List UInt8} {k : Int} {w w' : World} {s : MtSt} {ok : Bool} {ev : Int} (hs : mtSteps D a num last body k = s) (hd : Dk w' h' s.D) (hm : Mk w' g h' a s.num s.last) (ht : Mtp h g w h' w') (ho : ok = s.done) (he : ev = (s.err : Nat)) :
    MsPost h D g a num last body k w (.returned (.tuple #[.bool ok, .int .i64 ev])) w' := by
  subst hs ho he
  exact ⟨rfl, h', hd, hm, ht⟩
theorem Mk.stp {w w' : World} {g : Nat} {h h' : Zn} {D : Dsk} {a : Int} {num : Nat} {last : Int} (m : Mk w g h a num last) (d : Dk w h D) (s : Stp h w h' w') : Mk w' g h' a num last := by
  refine ⟨?_⟩
  rw [s.g]
  exact s.blk d m.blk (by decide) (by decide)
theorem Mk.later {w w' : World} {g : Nat} {h : Zn} {a : Int} {num : Nat} {last : Int} (m : Mk w g h a num last) (hb : Below w.heap.size w w') : Mk w' g h a num last := ⟨m.blk.later hb⟩
/-- The last stores. -/
theorem ms_done {h h' : Zn} {D' : Dsk} {g : Nat} {a : Int} {num num' : Nat} {last last' : Int} {w w' : World} (hd : Dk w' h' D') (hm : Mk w' g h' a num last) (ht : Mtp h g w h' w') (n : Nat) :
    Dk (((w'.drewN n).setCell ⟨g, 2, none⟩ (.int .u64 (num' : Int))).setCell ⟨g, 3, none⟩ (.int .i64 last')) h' D' ∧ Mk (((w'.drewN n).setCell ⟨g, 2, none⟩ (.int .u64 (num' : Int))).setCell ⟨g, 3, none⟩ (.int .i64 last')) g h' a num' last' ∧
      Mtp h g w h' (((w'.drewN n).setCell ⟨g, 2, none⟩ (.int .u64 (num' : Int))).setCell ⟨g, 3, none⟩ (.int .i64 last')) := by
  have q := below_drewN (Below.refl w'.heap.size w') n
  have hd1 := hd.later q
  have hm1 := hm.later q
  have b1 := hm1.blk.put 2 (.int .u64 (num' : Int))
  refine ⟨(hd1.other (kind_blk hm1.blk) (by decide) (grown_cell _)).other (kind_blk b1) (by decide) (grown_cell _), ⟨b1.put 3 (.int .i64 last')⟩, ht.g, ?_, ht.has⟩
  exact ((ht.turn.trans (F' := fun _ => False) (Turn.of_below q) (fun _ h => h.elim)).setCell (p := ⟨g, 2, none⟩) (.inl (.inr rfl)) _).setCell (p := ⟨g, 3, none⟩) (.inl (.inr rfl)) _

set_option maxHeartbeats 4000000 in
set_option maxRecDepth 100000 in
theorem msteps_any (h : Zn) (D : Dsk) (g : Nat) (a : Int) (num : Nat) (last : Int) (body : List UInt8) (k : Int) (w : World) (hd : Dk w h D) (hok : D.Ok) (hlen : D.pend.length ≤ 900000) (hm : Mk w g h a num last) (h0 : 0 ≤ a) (h1 : a ≤ 65534) (hl0 : 0 ≤ last) (hl1 : last ≤ 1)
    (hnum : num < U64) (hbits : BitsOk w) (hk : InI k) :
    Calls Tryd.prog 10 #[.pointer (some ⟨g, 0, none⟩), .string (st body), .int .i64 k] w (MsPost h D g a num last body k w) := by
  have HD := Lib.hid hd
  have HOK := Lib.hid hok
  have HM := Lib.hid hm
  have HBI := Lib.hid hbits
  have HNU := Lib.hid hnum
  have m2 : w.cell? ⟨g, 2, none⟩ = some (.int .u64 (num : Int)) := hm.blk.cell 2
  have m3 : w.cell? ⟨g, 3, none⟩ = some (.int .i64 last) := hm.blk.cell 3
  have hgl := hm.blk.lt
  by_cases hlong : 480 < body.length
  · have qa : Below w.heap.size w (w.alloc (.cells #[.pointer (some ⟨g, 0, none⟩)] 28)) := (Below.refl _ _).alloc (Nat.le_refl _) _
    clear hd hok hm hbits hnum m2 m3
    go_enter Tryd.func10, Tryd.ntmps10
    go_wp2_with fail
    go_ret2
    exact ms_fin (mtSteps_long hlong) (HD.out.later qa) (HM.out.later qa) (Mtp.of_stp (Stp.below qa)) rfl rfl
  · have hwr : IntKind.u64.wrap ((num : Int) + 1) = (((num + 1) % U64 : Nat) : Int) := by
      rw [IntKind.wrap_u64]; unfold U64; omega
    have hqn : (num + 1) % U64 < U64 := Nat.mod_lt _ (by unfold U64; omega)
    obtain ⟨q, hq⟩ : ∃ q, (num + 1) % U64 = q := ⟨_, rfl⟩
    have HQ := Lib.hid hq
    rw [hq] at hwr hqn
    have HQN := Lib.hid hqn
    have q0 : Below w.heap.size w ((w.alloc (.cells #[.pointer (some ⟨g, 0, none⟩)] 28)).alloc (.cells #[.int .i64 (1 - last)] 3)) := ((Below.refl _ _).alloc (Nat.le_refl _) _).alloc (by simp) _
    have B0 := Lib.hid ((Blk.new w 28 #[.pointer (some ⟨g, 0, none⟩)]).alloc (.cells #[.int .i64 (1 - last)] 3))
    have B1 := Blk.new (w.alloc (.cells #[.pointer (some ⟨g, 0, none⟩)] 28)) 3 #[.int .i64 (1 - last)]
    rw [show (w.alloc (.cells #[.pointer (some ⟨g, 0, none⟩)] 28)).heap.size = w.heap.size + 1 by simp] at B1
    have HB1 := Lib.hid B1
    have HQ0 := Lib.hid q0
    have hl01 : 0 ≤ 1 - last := by omega
    have hl02 : 1 - last ≤ 1 := by omega
    clear hd hok hm hbits hnum hq hqn B1 q0
    go_enter Tryd.func10, Tryd.ntmps10
    go_wp2_with fail
    refine (rput_any q body _ HQN.out (HBI.out.later HQ0.out) (by omega)).mono ?_
    rintro e w1 ⟨hp1, -, hb1⟩
    obtain ⟨A, k1, c, rfl, hob⟩ := hp1 (by omega)
    obtain rfl := hob.len
    have HOB := Lib.hid hob
    have HB := Lib.hid hb1
    clear hp1 hob hb1
    have q1 := (HQ0.out.trans (HB.out.mono HQ0.out.size))
    have hsz1 : w.heap.size + 1 < w1.heap.size := by have := HB.out.size; simp at this; omega
    have q3 : Below w.heap.size w ((w1.alloc (.cells #[.slice A (recB q body).length c] 75)).alloc (.cells #[.func (Fn.func 26) #[] #[.pointer (some ⟨w.heap.size, 0, none⟩), .pointer (some ⟨w.heap.size + 1, 0, none⟩)], .func (Fn.func 24) #[] #[.pointer (some ⟨w.heap.size, 0, none⟩)], .func (Fn.func 28) #[] #[.pointer (some ⟨w.heap.size, 0, none⟩), .pointer (some ⟨w.heap.size + 1, 0, none⟩), .pointer (some ⟨w1.heap.size, 0, none⟩)], .func (Fn.func 24) #[] #[.pointer (some ⟨w.heap.size, 0, none⟩)]] 81)) :=
      (q1.alloc q1.size _).alloc (by simp; omega) _
    have qw1 : Below w1.heap.size w1 ((w1.alloc (.cells #[.slice A (recB q body).length c] 75)).alloc (.cells #[.func (Fn.func 26) #[] #[.pointer (some ⟨w.heap.size, 0, none⟩), .pointer (some ⟨w.heap.size + 1, 0, none⟩)], .func (Fn.func 24) #[] #[.pointer (some ⟨w.heap.size, 0, none⟩)], .func (Fn.func 28) #[] #[.pointer (some ⟨w.heap.size, 0, none⟩), .pointer (some ⟨w.heap.size + 1, 0, none⟩), .pointer (some ⟨w1.heap.size, 0, none⟩)], .func (Fn.func 24) #[] #[.pointer (some ⟨w.heap.size, 0, none⟩)]] 81)) :=
      ((Below.refl _ _).alloc (Nat.le_refl _) _).alloc (by simp) _
    have a1 := Blk.new (w1.alloc (.cells #[.slice A (recB q body).length c] 75)) 81 #[.func (Fn.func 26) #[] #[.pointer (some ⟨w.heap.size, 0, none⟩), .pointer (some ⟨w.heap.size + 1, 0, none⟩)], .func (Fn.func 24) #[] #[.pointer (some ⟨w.heap.size, 0, none⟩)], .func (Fn.func 28) #[] #[.pointer (some ⟨w.heap.size, 0, none⟩), .pointer (some ⟨w.heap.size + 1, 0, none⟩), .pointer (some ⟨w1.heap.size, 0, none⟩)], .func (Fn.func 24) #[] #[.pointer (some ⟨w.heap.size, 0, none⟩)]]
    rw [show (w1.alloc (.cells #[.slice A (recB q body).length c] 75)).heap.size = w1.heap.size + 1 by simp] at a1
    have a2 := (Blk.new w1 75 #[.slice A (recB q body).length c]).alloc (.cells #[.func (Fn.func 26) #[] #[.pointer (some ⟨w.heap.size, 0, none⟩), .pointer (some ⟨w.heap.size + 1, 0, none⟩)], .func (Fn.func 24) #[] #[.pointer (some ⟨w.heap.size, 0, none⟩)], .func (Fn.func 28) #[] #[.pointer (some ⟨w.heap.size, 0, none⟩), .pointer (some ⟨w.heap.size + 1, 0, none⟩), .pointer (some ⟨w1.heap.size, 0, none⟩)], .func (Fn.func 24) #[] #[.pointer (some ⟨w.heap.size, 0, none⟩)]] 81)
    have HA1 := Lib.hid a1
    have HA2 := Lib.hid a2
    have HP0 := Lib.hid ((B0.out.later HB.out).later qw1)
    have HP1 := Lib.hid ((HB1.out.later HB.out).later qw1)
    have HUB := Lib.hid ((Ub.of_own HOB.out).later qw1)
    have HQ3 := Lib.hid q3
    clear q1 a1 a2 qw1 q3
    go_wp2_with fail
    generalize hW : (w1.alloc _).alloc _ = W at *
    clear hW
    have HDW := Lib.hid (HD.out.later HQ3.out)
    have HMW := Lib.hid (HM.out.later HQ3.out)
    go_loopw [40] (fun iv wr => ∃ (i : Nat) (h' : Zn), iv = .int .i64 (i : Int) ∧ i ≤ 4 ∧ (i = 0 ∨ (i : Int) ≤ k) ∧ Hid (3 ≤ i → (dAt D (a + (1 - last)) (recB q body) 2).why (a + (1 - last)) (recB q body) = 0) ∧ Hid (Dk wr h' (dAt D (a + (1 - last)) (recB q body) i)) ∧ Hid (Stp h W h' wr)) (fun iv _ => 4 - (intOf iv).toNat)
    case atStart => exact ⟨0, h, rfl, by omega, .inl rfl, fun h => absurd h (by omega), HDW, Stp.refl _ _⟩
    obtain ⟨i, h', rfl, hi4, hik, HWY, hd0, hs0⟩ := hrel
    have HAR := Lib.hid (hs0.out.blk HDW.out HA1.out (by decide) (by decide))
    have hp0 := Lib.hid (hs0.out.blk HDW.out HP0.out (by decide) (by decide))
    have hp1 := Lib.hid (hs0.out.blk HDW.out HP1.out (by decide) (by decide))
    have hp2 := Lib.hid (hs0.out.blk HDW.out HA2.out (by decide) (by decide))
    have HUR := Lib.hid ((hs0.out.ub HDW.out HUB.out).bs)
    have HMR := Lib.hid (HMW.out.stp HDW.out hs0.out)
    have hrl : (recB q body).length ≤ 1099511627776 := by have := recB_len q body; have := recF_len HQN.out (t := body) (by omega); omega
    clear m2 m3
    rcases i with _ | _ | _ | _ | i
    · have ca : wr.cell? ⟨w1.heap.size + 1, 0, none⟩ = some (.func (Fn.func 26) #[] #[.pointer (some ⟨w.heap.size, 0, none⟩), .pointer (some ⟨w.heap.size + 1, 0, none⟩)]) := HAR.out.cell 0
      by_cases hki : k ≤ 0
      · go_wp2_with fail
        go_ret2
        exact ms_fin (mtSteps_stop (i := 0) hlong (by omega) (by omega) (by omega) (by rw [HQ.out]; exact HWY.out)) (by rw [HQ.out]; exact hd0.out) HMR.out (Mtp.of_stp ((Stp.below HQ3.out).trans hs0.out)) rfl rfl
      go_wp2_with fail
      refine (mclos2_any h' (dAt D (a + (1 - last)) (recB q body) 0) g w.heap.size (w.heap.size + 1) a (1 - last) num last wr hd0.out (dAt_ok HOK.out _ _ 0) (by have := dAt_pend D (a + (1 - last)) (recB q body) 0; omega) HMR.out h0 h1 hl01 hl02 hp0.out hp1.out).mono ?_
      rintro e w4 ⟨rfl, h4, hd4, hs4⟩
      have hdw : Hid (Dk w4 h4 (dAt D (a + (1 - last)) (recB q body) 1)) := hd4
      have hsw := Lib.hid (hs0.out.trans hs4)
      clear hd4 hs4
      go_wp2_with fail
      go_roundw
      case rel => exact ⟨1, h4, rfl, by omega, by omega, fun h => absurd h (by omega), hdw, hsw⟩
      case measure => simp [intOf]
    · have ca : wr.cell? ⟨w1.heap.size + 1, 1, none⟩ = some (.func (Fn.func 24) #[] #[.pointer (some ⟨w.heap.size, 0, none⟩)]) := HAR.out.cell 1
      by_cases hki : k ≤ 1
      · go_wp2_with fail
        go_ret2
        exact ms_fin (mtSteps_stop (i := 1) hlong (by omega) (by omega) (by omega) (by rw [HQ.out]; exact HWY.out)) (by rw [HQ.out]; exact hd0.out) HMR.out (Mtp.of_stp ((Stp.below HQ3.out).trans hs0.out)) rfl rfl
      go_wp2_with fail
      refine (mclos1_any h' (dAt D (a + (1 - last)) (recB q body) 1) g w.heap.size a num last wr hd0.out (dAt_ok HOK.out _ _ 1) HMR.out hp0.out).mono ?_
      rintro e w4 ⟨rfl, h4, hd4, hs4⟩
      have hdw : Hid (Dk w4 h4 (dAt D (a + (1 - last)) (recB q body) 2)) := hd4
      have hsw := Lib.hid (hs0.out.trans hs4)
      clear hd4 hs4
      go_wp2_with fail
      go_roundw
      case rel => exact ⟨2, h4, rfl, by omega, by omega, fun h => absurd h (by omega), hdw, hsw⟩
      case measure => simp [intOf]
    · have ca : wr.cell? ⟨w1.heap.size + 1, 2, none⟩ = some (.func (Fn.func 28) #[] #[.pointer (some ⟨w.heap.size, 0, none⟩), .pointer (some ⟨w.heap.size + 1, 0, none⟩), .pointer (some ⟨w1.heap.size, 0, none⟩)]) := HAR.out.cell 2
      by_cases hki : k ≤ 2
      · go_wp2_with fail
        go_ret2
        exact ms_fin (mtSteps_stop (i := 2) hlong (by omega) (by omega) (by omega) (by rw [HQ.out]; exact HWY.out)) (by rw [HQ.out]; exact hd0.out) HMR.out (Mtp.of_stp ((Stp.below HQ3.out).trans hs0.out)) rfl rfl
      by_cases hwy : (dAt D (a + (1 - last)) (recB q body) 2).why (a + (1 - last)) (recB q body) = 0
      · have HW0 := Lib.hid hwy
        go_wp2_with fail
        refine (mclos3_any h' (dAt D (a + (1 - last)) (recB q body) 2) g w.heap.size (w.heap.size + 1) w1.heap.size a (1 - last) num last _ _ (recB q body) wr hd0.out (dAt_ok HOK.out _ _ 2) (by have := dAt_pend D (a + (1 - last)) (recB q body) 2; omega) HMR.out h0 h1 hl01 hl02 hp0.out hp1.out hp2.out HUR.out hrl).mono ?_
        rw [HW0.out]
        rintro e w4 ⟨rfl, h4, hd4, hs4⟩
        have hdw : Hid (Dk w4 h4 (dAt D (a + (1 - last)) (recB q body) 3)) := hd4
        have hsw := Lib.hid (hs0.out.trans hs4)
        clear hd4 hs4 hwy
        go_wp2_with fail
        go_roundw
        case rel => exact ⟨3, h4, rfl, by omega, by omega, fun _ => HW0.out, hdw, hsw⟩
        case measure => simp [intOf]
      · have HW0 := Lib.hid hwy
        obtain ⟨y, hy⟩ : ∃ y, (dAt D (a + (1 - last)) (recB q body) 2).why (a + (1 - last)) (recB q body) = y := ⟨_, rfl⟩
        have HYY := Lib.hid hy
        have hyb : ((y : Int) != 0) = true := by rw [hy] at hwy; simp; omega
        clear hwy hy
        go_wp2_with fail
        refine (mclos3_any h' (dAt D (a + (1 - last)) (recB q body) 2) g w.heap.size (w.heap.size + 1) w1.heap.size a (1 - last) num last _ _ (recB q body) wr hd0.out (dAt_ok HOK.out _ _ 2) (by have := dAt_pend D (a + (1 - last)) (recB q body) 2; omega) HMR.out h0 h1 hl01 hl02 hp0.out hp1.out hp2.out HUR.out hrl).mono ?_
        rw [HYY.out]
        rintro e w4 ⟨rfl, h4, hd4, hs4⟩
        have hdw : Hid (Dk w4 h4 (dAt D (a + (1 - last)) (recB q body) 2)) := by
          have e : (dAt D (a + (1 - last)) (recB q body) 2).write (a + (1 - last)) (recB q body) = dAt D (a + (1 - last)) (recB q body) 2 := by unfold Dsk.write; rw [if_neg HW0.out]
          rw [e] at hd4
          exact hd4
        have hsw := Lib.hid (hs0.out.trans hs4)
        have HM4 := Lib.hid (HMR.out.stp hd0.out hs4)
        clear hd4 hs4
        go_wp2_with fail
        go_ret2
        exact ms_fin (mtSteps_err hlong (by omega) (by rw [HQ.out]; exact HW0.out)) (by rw [HQ.out]; exact hdw.out) HM4.out (Mtp.of_stp ((Stp.below HQ3.out).trans hsw.out)) rfl (by rw [HQ.out, HYY.out])
    · have ca : wr.cell? ⟨w1.heap.size + 1, 3, none⟩ = some (.func (Fn.func 24) #[] #[.pointer (some ⟨w.heap.size, 0, none⟩)]) := HAR.out.cell 3
      by_cases hki : k ≤ 3
      · go_wp2_with fail
        go_ret2
        exact ms_fin (mtSteps_stop (i := 3) hlong (by omega) (by omega) (by omega) (by rw [HQ.out]; exact HWY.out)) (by rw [HQ.out]; exact hd0.out) HMR.out (Mtp.of_stp ((Stp.below HQ3.out).trans hs0.out)) rfl rfl
      go_wp2_with fail
      refine (mclos1_any h' (dAt D (a + (1 - last)) (recB q body) 3) g w.heap.size a num last wr hd0.out (dAt_ok HOK.out _ _ 3) HMR.out hp0.out).mono ?_
      rintro e w4 ⟨rfl, h4, hd4, hs4⟩
      have hdw : Hid (Dk w4 h4 (dAt D (a + (1 - last)) (recB q body) 4)) := hd4
      have hsw := Lib.hid (hs0.out.trans hs4)
      clear hd4 hs4
      go_wp2_with fail
      go_roundw
      case rel => exact ⟨4, h4, rfl, by omega, by omega, fun _ => HWY.out (by omega), hdw, hsw⟩
      case measure => simp [intOf]
    · obtain rfl : i = 0 := by omega
      have s3 : wr.cell? ⟨w.heap.size + 1, 0, none⟩ = some (.int .i64 (1 - last)) := hp1.out.cell 0
      have s2 : wr.cell? ⟨w.heap.size, 0, none⟩ = some (.pointer (some ⟨g, 0, none⟩)) := hp0.out.cell 0
      have m0 : (wr).cell? ⟨g, 0, none⟩ = some (.pointer (some ⟨h'.g, 0, none⟩)) := HMR.out.blk.cell 0
      have m1 : (wr).cell? ⟨g, 1, none⟩ = some (.int .i64 a) := HMR.out.blk.cell 1
      have m2 : (wr).cell? ⟨g, 2, none⟩ = some (.int .u64 (num : Int)) := HMR.out.blk.cell 2
      have m3 : (wr).cell? ⟨g, 3, none⟩ = some (.int .i64 last) := HMR.out.blk.cell 3
      have mf0 : (wr).frozen? ⟨g, 0, none⟩ = false := HMR.out.blk.free 0
      have mf1 : (wr).frozen? ⟨g, 1, none⟩ = false := HMR.out.blk.free 1
      have mf2 : (wr).frozen? ⟨g, 2, none⟩ = false := HMR.out.blk.free 2
      have mf3 : (wr).frozen? ⟨g, 3, none⟩ = false := HMR.out.blk.free 3
      go_wp2_with fail
      go_region
      go_wp2_with fail
      go_ret2
      have HF := ms_done hd0.out HMR.out (Mtp.of_stp (g := g) ((Stp.below HQ3.out).trans hs0.out)) 1 (num' := q) (last' := 1 - last)
      exact ms_fin (mtSteps_done hlong (by omega) (by rw [HQ.out]; exact HWY.out (by omega))) (by rw [HQ.out]; exact HF.1) (by rw [HQ.out]; exact HF.2.1) HF.2.2 rfl rfl
end Go.Proofs.YtpmndmgfoiagnaaDoor
