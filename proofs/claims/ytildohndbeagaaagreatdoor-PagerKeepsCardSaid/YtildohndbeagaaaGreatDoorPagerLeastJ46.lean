/- What the proof of PagerLeast needs, part 46. -/
import Derived.Test.YtildohndbeagaaaGreatDoorPagerLeastJ2
import Derived.Test.YtildohndbeagaaaGreatDoorPagerLeastJ41
import Derived.Test.YtildohndbeagaaaGreatDoorPagerLeastJ43
import Derived.Test.YtildohndbeagaaaGreatDoorPagerLeastJ45

namespace Go.Proofs.YtildohndbeagaaaGreatDoor
open Go Go.RowKit
set_option linter.unusedVariables false

def Pgr.act (P : Pgr) (kind id : Int) (b : List UInt8) : Pgr := if kind = 0 then P.write id b else if kind = 1 then P.free id else if kind = 2 then (P.alloc b).1 else if kind = 4 then P.drop else P
def Rpg.act (R : Rpg) (kind id : Int) (b : List UInt8) : Rpg := if kind = 0 then R.write id b else if kind = 1 then R.free id else if kind = 2 then (R.alloc b).1 else if kind = 4 then R.drop else R
theorem Al.act {P : Pgr} {c : Int → List UInt8} {R : Rpg} (h : Al P c R) (pk : Pk P c) (kind id : Int) (b : List UInt8) : Al (P.act kind id b) c (R.act kind id b) := by
  unfold Pgr.act Rpg.act
  split
  · exact h.write id b
  split
  · exact h.free pk id
  split
  · exact (h.alloc b).1
  split
  · exact h.drop
  · exact h
def DoPost (w W : World) (Z : Pz) (P : Pgr) (c : Int → List UInt8) (R : Rpg) (kind id : Int) (b : List UInt8) (e : Ending) (W' : World) : Prop :=
  ∃ cs' ok, e = .returned (.tuple #[.agg cs', .bool ok]) ∧ Rc (R.act kind id b) cs' ∧ Px w W' Z (P.act kind id b) c ∧ (Al P c R → ok = true) ∧ Ptp Z W Z W'
theorem three_new (w : World) (A B C : Array Value) (t u v : TypeId) :
    Blk (((w.alloc (.cells A t)).alloc (.cells B u)).alloc (.cells C v)) w.heap.size t A ∧ Blk (((w.alloc (.cells A t)).alloc (.cells B u)).alloc (.cells C v)) (w.heap.size + 1) u B ∧ Blk (((w.alloc (.cells A t)).alloc (.cells B u)).alloc (.cells C v)) (w.heap.size + 1 + 1) v C ∧ Below w.heap.size w (((w.alloc (.cells A t)).alloc (.cells B u)).alloc (.cells C v)) := by
  refine ⟨((Blk.new _ _ _).alloc _).alloc _, ?_, ?_, (((Below.refl _ _).alloc (Nat.le_refl _) _).alloc (by simp) _).alloc (by simp; omega) _⟩
  · have := (Blk.new (w.alloc (.cells A t)) u B).alloc (.cells C v)
    simpa using this
  · have := Blk.new ((w.alloc (.cells A t)).alloc (.cells B u)) v C
    simpa using this
theorem turn_block {F : Nat → Prop} {w w' : World} (h : Turn F w w') {g : Nat} {t : TypeId} {cs : Array Value} (hb : Blk w g t cs) (hg : ¬ F g) : Blk w' g t cs := by
  unfold Blk
  rw [h.block g hb.lt hg]
  exact hb
/-- Bytes in memory that is new since B. -/
def VB (B : Nat) (l : List UInt8) : VP := fun v w => Bs (fun b => B ≤ b ∧ b < w.heap.size) w v l
theorem VB.turn {B : Nat} {l : List UInt8} {F : Nat → Prop} {v : Value} {w w' : World} (h : VB B l v w) (ht : Turn F w w') (hF : ∀ b, F b → b < B) : VB B l v w' :=
  Sl.more (Sl.keep h fun b o hs => World.cell?_of_block (ht.block b hs.2 fun e => by have := hF b e; omega)) fun b hb => ⟨hb.1, Nat.lt_of_lt_of_le hb.2 ht.size⟩
theorem VB.ok {B : Nat} (l : List UInt8) {F : Nat → Prop} {pt : Pt} (ic j : Nat) (hF : ∀ b, F b → b < B) (hg : pt.g < B) : VCf F pt ic j (VB B l) :=
  ⟨fun v w w' hb h => VB.turn h (Turn.of_below (F := fun _ => False) hb) fun _ e => e.elim, fun _ v w w' ht h => VB.turn h ht hF, fun _ v w w' hp h => VB.turn h (turn_puts hp) fun b e => by rw [e]; exact hg⟩
section
variable {Pr : Program} {ops : Array Oper} {F : Nat → Prop} {pt : Pt} {ic : Nat} {w0 : World} {Q : Act → World → Prop} {a : Act} {o : Oper} {rest : List Oper} {Vs : List VP} {env : List (Value × VP)}
/-- A whole variable is read. -/
theorem wpC_load (cs : Array Value) (hw : Region.wanted o (yielded ops a.tmps) = true) (hn : (env.length == ic) = false) (hn2 : (env.length == pt.i) = false) (ty : TypeId) (x : Operand) (ho : o.op = .load ty x) (g : Nat) (hx : a.eval x = .pointer (some ⟨g, 0, none⟩))
    {t : TypeId} {d : TypeDesc} (hu : Pr.underlying ty = some d) (hd : (match d with | .struct _ | .array _ _ => true | _ => false) = true) (hi : (Pr.info? ty).map (·.size) = some cs.size) (hb : Blk w0 g t cs) (hg : ¬ cfF F pt.g g)
    (h2 : ∀ K : Act → Prop, (∀ a', wpReg Pr ops (cfR F pt ic w0) Q rest Vs (env ++ [(.agg cs, Is (.agg cs))]) a' → K a') → K (a.put o.dst (.agg cs))) : wpReg Pr ops (cfR F pt ic w0) Q (o :: rest) (Is (.agg cs) :: Vs) env a := by
  refine wpC_is hw hn hn2 (fun w hC _ => ?_) h2
  have hb2 := turn_block hC hb hg
  have hrun : (execOp a.eval o).run Pr w = .ok (.value (.agg cs)) w := by
    unfold execOp
    simp only [ho, hx, Instr.loadAt, Instr.sureAddr, Sem.run_bind, Sem.run_pure, Result.andThen_ok, run_loadVar_row w g t ty cs (0, 0) d hb2 hu hd hi]
  unfold grows
  rw [hrun]
  exact grows_value _ _
/-- []byte(s). -/
theorem wpC_bytes {l : List UInt8} (hw : Region.wanted o (yielded ops a.tmps) = true) (hn : (env.length == ic) = false) (hn2 : (env.length == pt.i) = false) (x : Operand) {src dst e : TypeId} (ho : o.op = .convert src dst x)
    (hs : Pr.underlying src = some .string) (hd : Pr.underlying dst = some (.slice e)) (he : Pr.underlying e = some (.int .u8)) (hl : l.length ≤ maxLen) (hx : a.eval x = .string (st l))
    (h2 : ∀ A c, (∃ w, Turn (cfF F pt.g) w0 w ∧ VB w0.heap.size l (.slice A l.length c) w) → ∀ K : Act → Prop, (∀ a', wpReg Pr ops (cfR F pt ic w0) Q rest Vs (env ++ [(.slice A l.length c, VB w0.heap.size l)]) a' → K a') → K (a.put o.dst (.slice A l.length c))) : wpReg Pr ops (cfR F pt ic w0) Q (o :: rest) (VB w0.heap.size l :: Vs) env a := by
  refine wpC_rel hw hn hn2 (fun w hC _ => ?_) fun y hy => ?_
  · have hrun := run_bytes_of_string (P := Pr) w src dst e (st l) hs hd he
    unfold grows execOp
    rw [st_size] at hrun
    simp [ho, hx, hrun, Result.andThen]
    refine ⟨((Below.refl _ _).drew.alloc (Nat.le_refl _) _), Sl.more (Bs.of_string w.drew l e _ (grownCap_ge w _ 0 e) (grownCap_le_maxLen w _ 0 e hl) _) fun b hb => ?_⟩
    have := hC.size
    have hb : b = w.heap.size := hb
    subst hb
    exact ⟨this, by simp⟩
  · obtain ⟨w, h3, h4⟩ := hy
    have h5 := h4
    obtain ⟨A, c, rfl, _⟩ := Bs.at h5
    exact h2 A c ⟨w, h3, h4⟩
end
theorem grown_row (w : World) (g : Nat) (cs : Array Value) : w.grownBy (w.setRow g cs) (some g) :=
  ⟨rfl, rfl, rfl, by show w.heap.size ≤ (w.setRow g cs).heap.size; unfold World.setRow; simp, fun i hi hne => heap_setRow w g cs i fun e => hne (by rw [e])⟩
/-- The document's pager is put anew: the program's stays. -/
theorem Px.row {w W : World} {Z : Pz} {P : Pgr} {c : Int → List UInt8} (p : Px w W Z P c) {g : Nat} {t : TypeId} {cs : Array Value} (hb : Blk W g t cs) (ht : t ∉ pgKs) (hg : w.heap.size ≤ g) (ds : Array Value) : Px w (W.setRow g ds) Z P c :=
  ⟨p.pg.other (kind_blk hb) ht (grown_row W g ds), p.pk, p.new, below_setRow p.below hg ds, p.num⟩

theorem turn_cell {F : Nat → Prop} {w w' : World} (h : Turn F w w') {b o : Nat} {v : Value} (hc : w.cell? ⟨b, o, none⟩ = some v) (hb : ¬ F b) : w'.cell? ⟨b, o, none⟩ = some v := (World.cell?_of_block (a := ⟨b, o, none⟩) (h.block b (World.block_lt_of_cell? w _ hc) hb)).trans hc
theorem steps_call {P : Program} {f : FuncId} {args : Array Value} {w : World} {S : World → World → Prop} {V : VP} (h : Calls P f args w fun e w' => ∃ v, e = .returned v ∧ S w w' ∧ V v w') : stepsUpon P w S V (.ok (.enter f args) w) := h
/-- What a call on the pager yields, and where it leads. -/
def VPx (w : World) (Z : Pz) (P : Pgr) (c : Int → List UInt8) (u : Value) : VP := fun v wx => v = u ∧ Px w wx Z P c
theorem VPx.ok {F : Nat → Prop} {pt : Pt} {ic : Nat} {w : World} {Z : Pz} {P : Pgr} {c : Int → List UInt8} {u : Value} (ht : pt.t ∉ pgKs) (hg : w.heap.size ≤ pt.g) {j : Nat} (hj : j = ic) : VCf F pt ic j (VPx w Z P c u) :=
  ⟨fun v x x' hb h => ⟨h.1, h.2.later hb⟩, fun h => absurd hj h, fun _ v x x' hp h => by
    obtain ⟨cs, cs', h1, _, _, rfl⟩ := hp
    exact ⟨h.1, Px.row h.2 h1 ht hg cs'⟩⟩
theorem HasV.ok {F : Nat → Prop} {pt : Pt} {ic : Nat} {g : Nat} {t : TypeId} (u : Value) (hg : g = pt.g) (hF : ¬ F g) {j : Nat} (hj : j = pt.i) : VCf F pt ic j (HasV g t (Is u)) :=
  ⟨HasV.stays (Stays.is u), fun _ v w w' ht ⟨h1, cs, h2, h3⟩ => ⟨h1, cs, turn_block ht h2 hF, h3⟩, fun h => absurd hj h⟩
/-- What is no pager's stays over a call on one. -/
theorem Px.blk {w W W' : World} {Z Z' : Pz} {P : Pgr} {c : Int → List UInt8} (p : Px w W Z P c) (s : Ptp Z W Z' W') {g : Nat} {t : TypeId} {cs : Array Value} (hb : Blk W g t cs) (h1 : t ≠ 80) (h2 : t ≠ 83) (h3 : t ≠ 75) (h4 : t ≠ 113) : Blk W' g t cs := by
  have hk := kind_blk hb
  unfold Blk at hb ⊢
  rw [s.turn.block g (lt_of_block hb) fun e => ?_]
  · exact hb
  · rcases p.pg.kinds e with h | h | h | h | h <;> rw [hk] at h <;> simp at h <;> contradiction

set_option maxHeartbeats 4000000 in
set_option maxRecDepth 100000 in
theorem do13_write {w W : World} {Z : Pz} {P : Pgr} {c : Int → List UInt8} {R : Rpg} {cs : Array Value} (p : Px w W Z P c) (hc : Rc R cs) (id nst : Int) (tag : Nat) (b : List UInt8) (A : Option Addr) (nl cl : Nat) (hid : InI id) (hbl : b.length ≤ 1000000) {g : Nat} (hg : Z.g = g) :
    Calls Tryz.prog 21 #[.pointer (some ⟨g, 0, none⟩), .agg cs, .agg #[.int .i64 0, .int .i64 id, .int .i64 nst, .int .u64 (tag : Int), .string (st b), .slice A nl cl]] W (DoPost w W Z P c R 0 id b) := by
  obtain ⟨B4, B5, B6, Q⟩ := three_new W cs #[.int .i64 0, .int .i64 id, .int .i64 nst, .int .u64 (tag : Int), .string (st b), .slice A nl cl] Tryz.zeroCells35 35 54 35
  have HC := Lib.hid hc
  have HS := Lib.hid hc.size
  have hu := Tryz.underlying35
  have HB4 := Lib.hid B4
  have HB6 := Lib.hid B6
  have HX := Lib.hid (p.later Q)
  have HT : Hid (Ptp Z W Z _) := Ptp.below Q
  have HG := Lib.hid hg
  have hwW := p.below.size
  clear hc B4 B6 p hg
  go_enter Tryz.func21, Tryz.ntmps21
  go_upto_region 1 with (fail)
  generalize hU : (((W.alloc (.cells cs 35)).alloc (.cells #[.int .i64 0, .int .i64 id, .int .i64 nst, .int .u64 (tag : Int), .string (st b), .slice A nl cl] 54)).alloc (.cells Tryz.zeroCells35 35)) = U at *
  clear hU
  have x0 : (U).cell? ⟨W.heap.size + 1, 0, none⟩ = some (.int .i64 0) := B5.cell 0
  have x1 : (U).cell? ⟨W.heap.size + 1, 1, none⟩ = some (.int .i64 id) := B5.cell 1
  have x2 : (U).cell? ⟨W.heap.size + 1, 2, none⟩ = some (.int .i64 nst) := B5.cell 2
  have x3 : (U).cell? ⟨W.heap.size + 1, 3, none⟩ = some (.int .u64 (tag : Int)) := B5.cell 3
  have x4 : (U).cell? ⟨W.heap.size + 1, 4, none⟩ = some (.string (st b)) := B5.cell 4
  have x5 : (U).cell? ⟨W.heap.size + 1, 5, none⟩ = some (.slice A nl cl) := B5.cell 5
  go_wp2_with (refine wpList_load_row rfl _ (.tmp 4) rfl W.heap.size rfl _ cs _ _ HB4.out hu rfl (rpgInfo HS.out) ?_)
  refine (rwrite13_any R cs id b U HC.out hid (by omega)).mono ?_
  rintro e U1 ⟨ds, rfl, hcd, hb1⟩
  have HCD := Lib.hid hcd
  have HSD := Lib.hid hcd.size
  have H1D := Lib.hid hcd.one
  have bz := Blk.new U1 35 Tryz.zeroCells35
  have HZ := Lib.hid bz
  have HN := Lib.hid (bz.setRow ds)
  have HNE : Hid (U1.heap.size ≠ W.heap.size + 1 + 1) := by
    have h1 := HB6.out.lt
    have h2 := hb1.size
    rw [Hid]; omega
  have q2 : Below U.heap.size U ((U1.alloc (.cells Tryz.zeroCells35 35)).setRow U1.heap.size ds) := below_setRow (hb1.alloc hb1.size _) hb1.size ds
  have B5 := B5.later q2
  have HB6 := Lib.hid (HB6.out.later q2)
  have HX := Lib.hid (HX.out.later q2)
  have HT := Lib.hid (HT.out.trans (Ptp.below q2))
  clear hcd bz q2 hb1 x0 x1 x2 x3 x4 x5
  go_upto_region 4 with (refine wpList_store_row rfl _ (.tmp 8) (.tmp 28) rfl U1.heap.size ds rfl rfl _ Tryz.zeroCells35 HZ.out (rpgInfo HSD.out) (by rw [zero13_size, HSD.out]) H1D.out ?_)
  generalize hV : (U1.alloc _).setRow _ ds = V at *
  clear hV
  generalize U1.heap.size = n at *
  have x0 : (V).cell? ⟨W.heap.size + 1, 0, none⟩ = some (.int .i64 0) := B5.cell 0
  have x1 : (V).cell? ⟨W.heap.size + 1, 1, none⟩ = some (.int .i64 id) := B5.cell 1
  have x2 : (V).cell? ⟨W.heap.size + 1, 2, none⟩ = some (.int .i64 nst) := B5.cell 2
  have x3 : (V).cell? ⟨W.heap.size + 1, 3, none⟩ = some (.int .u64 (tag : Int)) := B5.cell 3
  have x4 : (V).cell? ⟨W.heap.size + 1, 4, none⟩ = some (.string (st b)) := B5.cell 4
  have x5 : (V).cell? ⟨W.heap.size + 1, 5, none⟩ = some (.slice A nl cl) := B5.cell 5
  have hP := HX.out.pg
  have hrn : n ≠ W.heap.size + 1 + 1 := HNE.out
  have nx : ¬ cfF Z.has (W.heap.size + 1 + 1) (W.heap.size + 1) := by
    rintro (h | h)
    · exact hP.not_has (kind_blk B5) (by decide) h
    · omega
  have nn : ¬ cfF Z.has (W.heap.size + 1 + 1) n := by
    rintro (h | h)
    · exact hP.not_has (kind_blk HN.out) (by decide) h
    · exact hrn h
  have nr : ¬ Z.has (W.heap.size + 1 + 1) := hP.not_has (kind_blk HB6.out) (by decide)
  have hFl : ∀ b, Z.has b → b < V.heap.size := fun b hb => hP.lt hb
  have hrl : W.heap.size + 1 + 1 < V.heap.size := HB6.out.lt
  have HNX := Lib.hid nx
  have HNN := Lib.hid nn
  have HNR := Lib.hid nr
  have HFL := Lib.hid hFl
  clear nx nn nr hFl hP hrn B5
  refine wp_region_cf Z.has ⟨10, W.heap.size + 1 + 1, 35, 0, 452⟩ 7 (show (10 : Nat) ≠ 7 by decide) (by kernel_rfl) (by kernel_rfl) (by kernel_rfl) ?_
  apply Exists.intro
  apply And.intro
  · apply wpC_load ds rfl rfl rfl 35 (.tmp 8) rfl n rfl hu rfl (rpgInfo HSD.out) HN.out HNN.out
    intro K hK
    go_simp
    refine hK _ ?_
    clear hK K
    repeat (first
      | (apply wpC_skip rfl
         intro K hK
         go_simp
         refine hK _ ?_
         clear hK K)
      | (apply wpC_is rfl rfl rfl
         · intro wg hwg _
           have x1 := turn_cell hwg x1 HNX.out
           have x4 := turn_cell hwg x4 HNX.out
           unfold grows
           go_simp
           first
             | exact grows_value _ _
         intro K hK
         go_simp
         refine hK _ ?_
         clear hK K))
    apply wpC_bytes rfl rfl rfl (.tmp 35) rfl tS tB tU (by unfold maxLen; omega) rfl
    intro A6 c6 hw6 K hK
    go_simp
    refine hK _ ?_
    clear hK K hw6
    apply wpC_call (V := VPx w Z (P.write id b) c (.int .i64 (pgWhy id b : Int))) rfl rfl
    · intro wg hwg hf
      have hv6 : VB V.heap.size b (.slice A6 b.length c6) wg := hf ⟨6, .data⟩ (by simp) rfl _ _ rfl
      clear hf
      unfold steps
      go_simp
      apply steps_call
      exact (px_write (HX.out.later hwg) id _ _ b hid hv6 (by omega) HG.out).mono (by rintro e W' ⟨he, h1, h2⟩; exact ⟨_, he, h2.turn, rfl, h1⟩)
    intro xv hxv K hK
    obtain ⟨wx, _, rfl, _⟩ := hxv
    go_simp
    refine hK _ ?_
    clear hK K
    repeat (first
      | (apply wpC_skip rfl
         intro K hK
         go_simp
         refine hK _ ?_
         clear hK K)
      | (apply wpC_is rfl rfl rfl
         · intro wg hwg _
           have x1 := turn_cell hwg x1 HNX.out
           have x4 := turn_cell hwg x4 HNX.out
           unfold grows
           go_simp
           first
             | exact grows_value _ _
         intro K hK
         go_simp
         refine hK _ ?_
         clear hK K))
    apply wpC_store ds rfl (show (10 : Nat) ≠ 7 by decide) rfl 35 (.tmp 6) (.tmp 30) rfl rfl rfl (rpgInfo HSD.out) H1D.out HB6.out (by rw [zero13_size, HSD.out]) HNR.out rfl HSD.out.symm
    intro K hK
    go_simp
    refine hK _ ?_
    clear hK K
    repeat (first
      | (apply wpC_skip rfl
         intro K hK
         go_simp
         refine hK _ ?_
         clear hK K)
      | (apply wpC_is rfl rfl rfl
         · intro wg hwg _
           have x1 := x1
           unfold grows
           go_simp
           first
             | exact grows_value _ _
         intro K hK
         go_simp
         refine hK _ ?_
         clear hK K))
    refine wpC_end (fun wg hwg hf => ?_)
    have hpx := hf 7 _ _ rfl
    have hbr := hf 10 _ _ rfl
    clear hf
    obtain ⟨-, hpx⟩ := hpx
    obtain ⟨-, cs6, hbr, hcs6⟩ := hbr
    injection hcs6 with hcs6
    subst hcs6
    have HPX := Lib.hid hpx
    have HBR := Lib.hid hbr
    have HPT : Hid (Ptp Z W Z wg) := ⟨rfl, rfl, HT.out.turn.trans hwg (fun b hb => hb.elim .inl fun e => .inr (by rw [e]; show W.heap.size ≤ W.heap.size + 1 + 1; omega)), fun b h => .inl h⟩
    have HA1 : Hid (R.act 0 id b = R.write id b ∧ P.act 0 id b = P.write id b) := ⟨by simp [Rpg.act], by simp [Pgr.act]⟩
    clear hpx hbr hwg
    go_wp2_with fail
    refine bodyPost_ret (results_cell2 rfl _ _ (W.heap.size + 1 + 1) rfl HBR.out (rpgTy HSD.out)) rfl ⟨_, true, rfl, ?_, ?_, fun _ => rfl, HPT.out⟩
    · rw [HA1.out.1]; exact HCD.out
    · rw [HA1.out.2]; exact HPX.out
  · apply And.intro
    · repeat (first
        | exact trivial
        | (refine ⟨VCf.is _ _ _ _ _, ?_⟩)
        | (refine ⟨VB.ok _ _ _ HFL.out hrl, ?_⟩)
        | (refine ⟨VPx.ok (show 35 ∉ pgKs by decide) (show w.heap.size ≤ W.heap.size + 1 + 1 by omega) rfl, ?_⟩)
        | (refine ⟨HasV.ok _ rfl HNR.out rfl, ?_⟩))
    · rfl
end Go.Proofs.YtildohndbeagaaaGreatDoor
