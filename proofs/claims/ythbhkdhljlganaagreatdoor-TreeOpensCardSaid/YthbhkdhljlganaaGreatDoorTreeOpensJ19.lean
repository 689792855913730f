/- What the proof of TreeOpens needs, part 19. -/
import Derived.Test.YthbhkdhljlganaaGreatDoorTreeOpensJ18
import Derived.IntWalk
import Derived.Deep.RegionWith
import Derived.Deep.Cut
import Derived.Deep.DeepCutAuto
import Derived.Deep.RegionLaw

namespace Go.Proofs.YthbhkdhljlganaaGreatDoor
open Go Go.RowKit
set_option linter.unusedVariables false

/-- Only the pager's own block and its table turned. -/
def Pt2 (Z : Pz) (w w' : World) : Prop := Turn (fun b => b = Z.g ∨ b = Z.bt) w w'
theorem Pt2.below {Z : Pz} {w w' : World} (h : Below w.heap.size w w') : Pt2 Z w w' := Turn.of_below h
theorem Pt2.new {Z : Pz} {w wr w' : World} {z : Nat} (h : Pt2 Z w wr) (hg : wr.grownBy w' (some z)) (hz : (z = Z.g ∨ z = Z.bt) ∨ w.heap.size ≤ z) : Pt2 Z w w' :=
  Turn.trans h (F' := fun b => b = z) (Turn.of_grown hg fun y hy => by injection hy with hy; exact hy.symm) fun b hb => by rw [hb]; exact hz
theorem Pt2.more {Z : Pz} {w wr w' : World} (h : Pt2 Z w wr) (k : Below wr.heap.size wr w') : Pt2 Z w w' :=
  Turn.trans h (F' := fun _ => False) (Turn.of_below k) fun b hb => hb.elim
def PcPost (Z : Pz) (P : Pgr) (body : List UInt8) (w : World) (e : Ending) (w' : World) : Prop :=
  ((∃ tag t, pgParse P.n body = some (tag, t) ∧ e = .returned (.bool true) ∧ Pg w' Z { P with tag := tag, tb := t } ∧ tag < U64) ∨ (pgParse P.n body = none ∧ e = .returned (.bool false))) ∧ Pt2 Z w w'
/-- What has been read. -/
structure PcM (w wr : World) (Z : Pz) (P : Pgr) (tag gr gs B : Nat) (s : PcSt) : Prop where
  pg : Pg wr Z { P with tag := tag, tb := s.t }
  rd : Rd wr gr B s.rest s.err
  sp : Sp wr gs s.used
  ptp : Pt2 Z w wr
  err : s.err ≤ 1000
  len : s.rest.length ≤ 1099511627776
  used : s.used.length = P.n
  fresh : ∀ x, s.last < x → s.t x = none
  last : -1 ≤ s.last ∧ s.last ≤ 89
  B0 : B ≤ wr.heap.size
  r0 : w.heap.size ≤ gr
  s0 : w.heap.size ≤ gs

theorem grown_tr {w wa wb : World} {z : Nat} (h : w.grownBy wa (some z)) (k : wa.grownBy wb (some z)) : w.grownBy wb (some z) :=
  ⟨k.os.trans h.os, k.tape.trans h.tape, k.output.trans h.output, Nat.le_trans h.size k.size, fun i hi hne => (k.block i (Nat.lt_of_lt_of_le hi h.size) hne).trans (h.block i hi hne)⟩
theorem grown_al {w wa : World} {z : Nat} (h : w.grownBy wa (some z)) (o : Obj) : w.grownBy (wa.alloc o) (some z) :=
  grown_tr h (below_grownBy ((Below.refl _ _).alloc (Nat.le_refl _) o) _)
/-- What region 7 of parse leaves. -/
structure PrSt (wr wx : World) (gr B gx : Nat) (y v : Nat) (l : List UInt8) (er : Nat) : Prop where
  rd : Rd wx gr B l er
  grown : wr.grownBy wx (some gr)
  blk : Blk wx gx 161 #[.int .i64 (y : Int), .int .i64 (v : Int)]
  new : wr.heap.size ≤ gx
theorem PrSt.of {wr w6 : World} {gr B gx : Nat} {l : List UInt8} {er : Nat} (hr : Rd w6 gr B l er) (hg : wr.grownBy w6 (some gr)) {a b : Value} (hb : Blk w6 gx 161 #[a, b]) (hx : wr.heap.size ≤ gx) (y v : Nat) :
    PrSt wr ((w6.setCell ⟨gx, 0, none⟩ (.int .i64 (y : Int))).setCell ⟨gx, 1, none⟩ (.int .i64 (v : Int))) gr B gx y v l er := by
  have k1 := (hr.far hb (by decide) (by decide) 0 (.int .i64 (y : Int)))
  have hb1 : Blk (w6.setCell ⟨gx, 0, none⟩ (.int .i64 (y : Int))) gx 161 #[.int .i64 (y : Int), b] := hb.put 0 _
  have k2 := (k1.far hb1 (by decide) (by decide) 1 (.int .i64 (v : Int)))
  refine ⟨k2, ?_, hb1.put 1 _, hx⟩
  refine ⟨hg.os, hg.tape, hg.output, by simpa using hg.size, fun i hi hne => ?_⟩
  rw [Below.heap_setCell _ _ _ _ (by simp only; omega), Below.heap_setCell _ _ _ _ (by simp only; omega)]
  exact hg.block i hi hne
open Go.MapKept Go.WideElems Go.ChangeMaps in
theorem setBlock_twice (w : World) (b : Nat) (o o' : Obj) : setBlock (setBlock w b o) b o' = setBlock w b o' := by
  simp [setBlock]
open Go.MapKept Go.WideElems Go.ChangeMaps in
/-- 'table[a], .. = place, ..' at a new page. -/
theorem Tbl.entry {w : World} {b : Nat} {t : TF} (h : Tbl w b t) {a : Int} (h0 : 0 ≤ a) (h1 : a < 90) (hn : t a = none) (x : Nat × Nat) :
    ∃ (wz w' : World) (c : Nat), (Instr.mapEntry 88 (.map (some b)) (.int .i64 a)).run Tryz.prog w = .ok (.tuple #[.agg #[.int .i64 0, .int .i64 0], .int .i64 (c : Int)]) wz ∧ w.mapTurned wz b ∧
      (Instr.entryStore 88 (.map (some b)) (.int .i64 (c : Int)) (.agg #[.int .i64 (x.1 : Int), .int .i64 (x.2 : Int)])).run Tryz.prog wz = .ok () w' ∧ Tbl w' b (t.put a x) ∧ w.mapTurned w' b := by
  obtain ⟨es, es', clock, r1, t1, hnext⟩ := h.mp.entry intTy tbTy zeroPl (ids90 _) (in90_i h0 h1) (by unfold tbV; rw [hn]; rfl) (.agg #[.int .i64 (x.1 : Int), .int .i64 (x.2 : Int)])
  obtain ⟨es0, clock0, _, _, hb0, _⟩ := t1
  obtain ⟨r2, _, h4⟩ := hnext _ (heap_setBlock_same hb0 _)
  rw [setBlock_twice] at r2 h4
  have e : (fun y => if y = a then some (Value.agg #[.int .i64 (x.1 : Int), .int .i64 (x.2 : Int)]) else tbV t y) = tbV (t.put a x) := by
    funext y
    unfold tbV TF.put
    by_cases hy : y = a
    · simp only [hy, if_true]; rfl
    · simp only [hy, if_false]
  have h90 : In90 (t.put a x) := fun y hy => by
    unfold TF.put at hy
    split at hy
    · omega
    · exact h.in90 y hy
  rw [e] at h4
  have h6 := (h4.ids intTy (g := t.put a x) (fun y _ => tbV_some _ y) h90).1
  rw [h6] at h4
  exact ⟨_, _, clock, r1, ⟨es0, clock0, _, _, hb0, rfl⟩, r2, ⟨h90, h4⟩, ⟨es0, clock0, _, _, hb0, rfl⟩⟩
theorem Ptp.new {Z : Pz} {w wr w' : World} {z : Nat} (h : Ptp Z w Z wr) (hg : wr.grownBy w' (some z)) (hz : Z.has z ∨ w.heap.size ≤ z) : Ptp Z w Z w' :=
  ⟨rfl, rfl, h.turn.trans (F' := fun b => b = z) (Turn.of_grown hg fun y hy => by injection hy with hy; exact hy.symm) fun b hb => by rw [hb]; exact hz, fun b hb => .inl hb⟩
theorem Pg.setTag {w : World} {Z : Pz} {P : Pgr} (p : Pg w Z P) (n : Nat) : Pg (w.setCell ⟨Z.g, 4, none⟩ (.int .u64 (n : Int))) Z { P with tag := n } :=
  p.setBlk rfl rfl rfl rfl rfl rfl rfl (grown_cell _) (p.blk.put 4 (.int .u64 (n : Int)))

set_option maxHeartbeats 8000000 in
set_option maxRecDepth 100000 in
theorem pparse_any (Z : Pz) (P : Pgr) (body : List UInt8) (w : World) (hp : Pg w Z P) (htb : P.tb = fun _ => none) (h2 : 2 ≤ P.n) (h256 : P.n ≤ 256) (hl : body.length ≤ 1000000000) :
    Calls Tryz.prog 35 #[.pointer (some ⟨Z.g, 0, none⟩), .string (st body)] w (PcPost Z P body w) := by
  have HP := Lib.hid hp
  have HTB := Lib.hid htb
  clear hp htb
  go_enter Tryz.func35, Tryz.ntmps35
  go_wp2_with (first
    | (refine wpList_bytes_of_st _ (by kernel_rfl) (.tmp 11) rfl tS tB tU (by unfold maxLen; omega) rfl ?_; intro A1 c1 w1 hbs1 hb1 hz1)
    | fail)
  refine (read_any _ _ body w1 (by omega) hbs1).mono ?_
  rintro e w2 ⟨gr, rfl, hgr, hrd, q2⟩
  have HP2 := Lib.hid (HP.out.later (hb1.trans (q2.mono hb1.size)))
  have S2 := Lib.hid (Pt2.below (Z := Z) (hb1.trans (q2.mono hb1.size)))
  have hw1 : w1.heap.size ≤ w2.heap.size := q2.size
  have HGR : Hid (w.heap.size ≤ gr) := Nat.le_trans hb1.size hgr
  clear hbs1 hb1 hz1 q2
  go_wp2_with fail
  refine (rnum_any gr w1.heap.size body 0 w2 hrd hw1 (by omega)).mono ?_
  rintro e w3 ⟨rfl, hrd3, hg3⟩
  have HR3 := Lib.hid hrd3
  have HKR := Lib.hid hrd.kind
  have HP3 := Lib.hid (HP2.out.other hrd.kind (by decide) hg3)
  have S3 := Lib.hid (S2.out.new hg3 (.inr HGR.out))
  obtain ⟨T1, hT1⟩ : ∃ T1, rdNum body 0 = T1 := ⟨_, rfl⟩
  have HPG : Hid (pgParse P.n body = match pcLoop P.n (rdCount T1.2.1 T1.2.2 90).1 ⟨(rdCount T1.2.1 T1.2.2 90).2.1, (rdCount T1.2.1 T1.2.2 90).2.2, -1, List.replicate P.n false, fun _ => none⟩ with | some s => if rdEnd s.rest s.err = 0 then some (T1.1, s.t) else none | none => none) := by
    rw [Hid, ← hT1]; rfl
  have hnb := rdNum_le body (e := 0) (by omega)
  rw [hT1] at HR3 hnb ⊢
  clear hT1
  obtain ⟨tag, l1, e1⟩ := T1
  simp only at HR3 hnb HPG ⊢
  obtain ⟨htag, hll1, hee1⟩ := hnb
  have HTAG := Lib.hid htag
  have c4 : w3.cell? ⟨Z.g, 4, none⟩ = some (.int .u64 (P.tag : Int)) := HP3.out.blk.cell 4
  have f4 := HP3.out.blk.free 4
  have HP4 := Lib.hid (HP3.out.setTag tag)
  have HRK : Hid (Rd (w3.setCell ⟨Z.g, 4, none⟩ (.int .u64 (tag : Int))) gr w1.heap.size l1 e1) := HR3.out.beside (kind_blk HP3.out.blk) (by decide) (by decide) (grown_cell _)
  have S4 : Hid (Pt2 Z w (w3.setCell ⟨Z.g, 4, none⟩ (.int .u64 (tag : Int)))) := S3.out.new (grown_cell _) (.inl (.inl rfl))
  have hw3 : w1.heap.size ≤ (w3.setCell ⟨Z.g, 4, none⟩ (.int .u64 (tag : Int))).heap.size := by have := hg3.size; simp; omega
  clear hrd3 hrd hg3 htag HP2 S2 HP3 S3 HR3 hw1
  go_upto_region 3 with (fail)
  generalize hW4 : w3.setCell _ _ = w4 at *
  clear hW4 c4 f4
  have d3 : w4.cell? ⟨Z.g, 3, none⟩ = some (.int .i64 (P.n : Int)) := HP4.out.blk.cell 3
  go_wp2_with fail
  refine (new_ok P.n w4 (by omega) h256).mono ?_
  rintro e w5 ⟨rfl, hs5, q5⟩
  have HP5 := Lib.hid (HP4.out.later q5)
  have HR5 := Lib.hid (HRK.out.later q5)
  have S5 := Lib.hid (S4.out.more q5)
  have HSP5 := Lib.hid hs5
  have hw5 : w1.heap.size ≤ w5.heap.size := Nat.le_trans hw3 q5.size
  have HGS : Hid (w.heap.size ≤ w4.heap.size) := Turn.size S4.out
  clear hs5 q5 d3 HP4 HRK S4 hw3
  generalize w4.heap.size = gs at *
  go_wp2_with fail
  refine (count_any gr w1.heap.size l1 e1 90 w5 HR5.out hw5 (by omega) (by omega) (by omega)).mono ?_
  rintro e w6 ⟨rfl, hr6, hg6⟩
  have hcb := rdCount_fin l1 e1 90 (by omega) hee1
  have HP6 := Lib.hid (HP5.out.other HR5.out.kind (by decide) hg6)
  have S6 := Lib.hid (S5.out.new hg6 (.inr HGR.out))
  have HSP6 := Lib.hid (HSP5.out.grown hg6 (fun e => by
    have := Option.some.inj e
    subst this
    have h1 := kind_blk HSP5.out.1
    rw [HR5.out.kind] at h1
    revert h1
    decide))
  obtain ⟨T2, hT2⟩ : ∃ T2, rdCount l1 e1 90 = T2 := ⟨_, rfl⟩
  rw [hT2] at hr6 hcb HPG ⊢
  clear hT2
  obtain ⟨cn, l2, e2⟩ := T2
  simp only at hr6 hcb HPG ⊢
  have hw6 : w1.heap.size ≤ w6.heap.size := Nat.le_trans hw5 hg6.size
  have M0 : Hid (PcM w w6 Z P tag gr gs w1.heap.size ⟨l2, e2, -1, List.replicate P.n false, fun _ => none⟩) :=
    ⟨by have := HP6.out; rw [← HTB.out]; exact this, hr6, HSP6.out, S6.out, hcb.2.2, by simp only; omega, by simp, fun _ _ => rfl, by simp, hw6, HGR.out, HGS.out⟩
  have hc90 : cn ≤ 90 := by omega
  clear hr6 hg6 hcb HP5 HR5 S5 HSP5 HP6 S6 HSP6 hw5 hw6 hee1 hll1
  generalize w1.heap.size = B at *
  go_wp2_with fail
  go_loopw [29, 8] (fun jv lv wr => ∃ (j : Nat) (s : PcSt), jv = .int .i64 (j : Int) ∧ lv = .int .i64 s.last ∧ j ≤ cn ∧ Hid (PcM w wr Z P tag gr gs B s) ∧ Hid (pcLoop P.n cn ⟨l2, e2, -1, List.replicate P.n false, fun _ => none⟩ = pcLoop P.n (cn - j) s)) (fun jv _ _ => cn - (intOf jv).toNat)
  case atStart => exact ⟨0, _, rfl, rfl, Nat.zero_le _, M0, rfl⟩
  case round =>
    clear M0
    obtain ⟨j, s, rfl, rfl, hj, M, HL⟩ := hrel
    by_cases hjc : j < cn
    · have d3 : wr.cell? ⟨Z.g, 3, none⟩ = some (.int .i64 (P.n : Int)) := M.out.pg.blk.cell 3
      obtain ⟨m1, hm1⟩ : ∃ m1 : Int, m1 = (P.n : Int) - 1 := ⟨_, rfl⟩
      have hwn : IntKind.i64.wrap ((P.n : Int) - 1) = m1 := by rw [hm1]; exact i64_inp (by omega) (by omega)
      have hm0 : 0 ≤ m1 := by omega
      have hm2 : m1 ≤ 255 := by omega
      have HM1 := Lib.hid hm1
      have hb1 := rdCount_fin s.rest s.err 89 (by omega) M.out.err
      obtain ⟨X, hX⟩ : ∃ X, rdCount s.rest s.err 89 = X := ⟨_, rfl⟩
      rw [hX] at hb1
      have hb2 := rdCount_fin X.2.1 X.2.2 m1 (by omega) hb1.2.2
      obtain ⟨Y, hY⟩ : ∃ Y, rdCount X.2.1 X.2.2 m1 = Y := ⟨_, rfl⟩
      rw [hY] at hb2
      have hb3 := rdCount_fin Y.2.1 Y.2.2 2048 (by omega) hb2.2.2
      obtain ⟨V, hV⟩ : ∃ V, rdCount Y.2.1 Y.2.2 2048 = V := ⟨_, rfl⟩
      rw [hV] at hb3
      have HLEN := Lib.hid M.out.len
      have HC1 : Hid (∀ wg, Rd wg gr B s.rest s.err → B ≤ wg.heap.size → Calls Tryz.prog 79 #[.pointer (some ⟨gr, 0, none⟩), .int .i64 89] wg fun e w' => e = .returned (.int .i64 (X.1 : Int)) ∧ Rd w' gr B X.2.1 X.2.2 ∧ wg.grownBy w' (some gr)) := fun wg h1 h2 => by
        have := count_any gr B s.rest s.err 89 wg h1 h2 HLEN.out (by omega) (by omega)
        rwa [hX] at this
      have HC2 : Hid (∀ wg, Rd wg gr B X.2.1 X.2.2 → B ≤ wg.heap.size → Calls Tryz.prog 79 #[.pointer (some ⟨gr, 0, none⟩), .int .i64 m1] wg fun e w' => e = .returned (.int .i64 (Y.1 : Int)) ∧ Rd w' gr B Y.2.1 Y.2.2 ∧ wg.grownBy w' (some gr)) := fun wg h1 h2 => by
        have := count_any gr B X.2.1 X.2.2 m1 wg h1 h2 (by have := HLEN.out; omega) (by omega) (by omega)
        rwa [hY] at this
      have HC3 : Hid (∀ wg, Rd wg gr B Y.2.1 Y.2.2 → B ≤ wg.heap.size → Calls Tryz.prog 79 #[.pointer (some ⟨gr, 0, none⟩), .int .i64 2048] wg fun e w' => e = .returned (.int .i64 (V.1 : Int)) ∧ Rd w' gr B V.2.1 V.2.2 ∧ wg.grownBy w' (some gr)) := fun wg h1 h2 => by
        have := count_any gr B Y.2.1 Y.2.2 2048 wg h1 h2 (by have := HLEN.out; omega) (by omega) (by omega)
        rwa [hV] at this
      have HPC : Hid (pcOne P.n s = if (rdEnd V.2.1 V.2.2 ≠ 0 ∧ rdEnd V.2.1 V.2.2 ≠ 31) ∨ (X.1 : Int) ≤ s.last ∨ (claimB s.used (Y.1 : Int)).2 ≠ 0 then none else some ⟨V.2.1, V.2.2, (X.1 : Int), (claimB s.used (Y.1 : Int)).1, s.t.put (X.1 : Int) (Y.1, V.1)⟩) := by
        rw [Hid, ← hV, ← hY, ← hX, hm1]; rfl
      have HVL : Hid (V.2.1.length ≤ 1099511627776) := by have := HLEN.out; rw [Hid]; omega
      clear hX hY hV hm1
      obtain ⟨x, r1, er1⟩ := X
      obtain ⟨y, r2, er2⟩ := Y
      obtain ⟨v, r3, er3⟩ := V
      simp only at hb1 hb2 hb3 HC1 HC2 HC3 HPC HVL
      have hsz := M.out.B0
      have HNE : Hid (∀ b, Z.has b → b ≠ gr) := fun b hb e => M.out.pg.not_has M.out.rd.kind (by decide) (by rw [← e]; exact hb)
      have hzg : Z.g ≠ gr := HNE.out _ (.inl rfl)
      have hzg2 : (some gr : Option Nat) ≠ some Z.g := fun e => hzg (Option.some.inj e).symm
      have HPB := Lib.hid M.out.pg.blk
      have QD : Hid (wr.grownBy wr.drew (some gr)) := ⟨rfl, rfl, rfl, Nat.le_refl _, fun _ _ _ => rfl⟩
      have QDA : Hid (wr.grownBy (wr.alloc (.cells #[.int .i64 0, .int .i64 0] 161)).drew (some gr)) := ⟨(grown_al QD.out _).os, (grown_al QD.out _).tape, (grown_al QD.out _).output, (grown_al QD.out _).size, (grown_al QD.out (.cells #[.int .i64 0, .int .i64 0] 161)).block⟩
      have d3o : (wr.alloc (.cells #[.int .i64 0, .int .i64 0] 161)).cell? ⟨Z.g, 3, none⟩ = some (.int .i64 (P.n : Int)) := (HPB.out.grown (grown_al QD.out _) hzg2).cell 3
      have hgr : gr < wr.heap.size := by obtain ⟨_, _, _, hb, _⟩ := M.out.rd; exact hb.lt
      go_upto_region 7 with (fail)
      go_cut [9, 10] (fun xv pv wx => ∃ gx : Nat, xv = .int .i64 (x : Int) ∧ pv = .pointer (some ⟨gx, 0, none⟩) ∧ Hid (PrSt wr wx gr B gx y v r3 er3))
      case first =>
        go_region_law (first
          | (go_simp; go_at_call_of 79 (Value.int .i64 2048); refine (HC3.out _ (by first | exact hr5 | exact hr5.later ((Below.refl _ _).alloc (Nat.le_refl _) _)) (by first | exact hB5 | exact Nat.le_trans hB5 ((Below.refl _ _).alloc (Nat.le_refl _) _).size)).mono ?_; rintro e w6 ⟨rfl, hr6, hg6⟩; have g36 : wr.grownBy w6 (some gr) := (by first | exact grown_tr g35 hg6 | exact grown_tr (grown_al g35 _) hg6); have d3c : w6.cell? ⟨Z.g, 3, none⟩ = some (.int .i64 (P.n : Int)) := (HPB.out.grown g36 hzg2).cell 3; have d3c2 : (w6.alloc (.cells #[.int .i64 0, .int .i64 0] 161)).cell? ⟨Z.g, 3, none⟩ = some (.int .i64 (P.n : Int)) := (HPB.out.grown (grown_al g36 _) hzg2).cell 3; (first | (have hx6 : (w5.alloc (.cells #[.int .i64 0, .int .i64 0] 161)).grownBy w6 (some gr) := hg6; have BX6 := (Blk.new w5 161 #[.int .i64 0, .int .i64 0]).grown hx6 (fun e => by have := Option.some.inj e; have := g35.size; omega); have NX6 : wr.heap.size ≤ w5.heap.size := g35.size; have y60 : w6.cell? ⟨_, 0, none⟩ = some (.int .i64 0) := BX6.cell 0; have y61 : w6.cell? ⟨_, 1, none⟩ = some (.int .i64 0) := BX6.cell 1; have yf60 := BX6.free 0; have yf61 := BX6.free 1) | (have BX6 := BX5.grown hg6 (fun e => by have := Option.some.inj e; have := NX5; omega); have NX6 := NX5; have y60 : w6.cell? ⟨_, 0, none⟩ = some (.int .i64 0) := BX6.cell 0; have y61 : w6.cell? ⟨_, 1, none⟩ = some (.int .i64 0) := BX6.cell 1; have yf60 := BX6.free 0; have yf61 := BX6.free 1) | skip))
          | (go_simp; go_at_call_of 79 (Value.int .i64 m1); refine (HC2.out _ (by first | exact hr4 | exact hr4.later ((Below.refl _ _).alloc (Nat.le_refl _) _)) (by first | exact hB4 | exact Nat.le_trans hB4 ((Below.refl _ _).alloc (Nat.le_refl _) _).size)).mono ?_; rintro e w5 ⟨rfl, hr5, hg5⟩; have g35 : wr.grownBy w5 (some gr) := (by first | exact grown_tr g34 hg5 | exact grown_tr (grown_al g34 _) hg5); have d3b : w5.cell? ⟨Z.g, 3, none⟩ = some (.int .i64 (P.n : Int)) := (HPB.out.grown g35 hzg2).cell 3; have d3b2 : (w5.alloc (.cells #[.int .i64 0, .int .i64 0] 161)).cell? ⟨Z.g, 3, none⟩ = some (.int .i64 (P.n : Int)) := (HPB.out.grown (grown_al g35 _) hzg2).cell 3; have hB5 : B ≤ w5.heap.size := Nat.le_trans hsz g35.size; (first | (have hx5 : (w4.alloc (.cells #[.int .i64 0, .int .i64 0] 161)).grownBy w5 (some gr) := hg5; have BX5 := (Blk.new w4 161 #[.int .i64 0, .int .i64 0]).grown hx5 (fun e => by have := Option.some.inj e; have := g34.size; omega); have NX5 : wr.heap.size ≤ w4.heap.size := g34.size; have y50 : w5.cell? ⟨_, 0, none⟩ = some (.int .i64 0) := BX5.cell 0; have y51 : w5.cell? ⟨_, 1, none⟩ = some (.int .i64 0) := BX5.cell 1; have yf50 := BX5.free 0; have yf51 := BX5.free 1) | (have BX5 := BX4.grown hg5 (fun e => by have := Option.some.inj e; have := NX4; omega); have NX5 := NX4; have y50 : w5.cell? ⟨_, 0, none⟩ = some (.int .i64 0) := BX5.cell 0; have y51 : w5.cell? ⟨_, 1, none⟩ = some (.int .i64 0) := BX5.cell 1; have yf50 := BX5.free 0; have yf51 := BX5.free 1) | skip))
          | (go_simp; go_at_call_of 79 (Value.int .i64 89); refine (HC1.out _ (by first | exact M.out.rd | exact M.out.rd.later (((Below.refl _ _).alloc (Nat.le_refl _) _).drew)) (by first | exact hsz | exact Nat.le_trans hsz (((Below.refl wr.heap.size wr).alloc (Nat.le_refl _) _).drew).size)).mono ?_; rintro e w4 ⟨rfl, hr4, hg4⟩; have g34 : wr.grownBy w4 (some gr) := (by first | exact grown_tr QD.out hg4 | exact grown_tr QDA.out hg4); have d3a : w4.cell? ⟨Z.g, 3, none⟩ = some (.int .i64 (P.n : Int)) := (HPB.out.grown g34 hzg2).cell 3; have d3a2 : (w4.alloc (.cells #[.int .i64 0, .int .i64 0] 161)).cell? ⟨Z.g, 3, none⟩ = some (.int .i64 (P.n : Int)) := (HPB.out.grown (grown_al g34 _) hzg2).cell 3; have hB4 : B ≤ w4.heap.size := Nat.le_trans hsz g34.size; (first | (have hx4 : (wr.alloc (.cells #[.int .i64 0, .int .i64 0] 161)).grownBy w4 (some gr) := ⟨hg4.os, hg4.tape, hg4.output, hg4.size, hg4.block⟩; have BX4 := (Blk.new wr 161 #[.int .i64 0, .int .i64 0]).grown hx4 (fun e => by have := Option.some.inj e; omega); have NX4 : wr.heap.size ≤ wr.heap.size := Nat.le_refl _; have y40 : w4.cell? ⟨_, 0, none⟩ = some (.int .i64 0) := BX4.cell 0; have y41 : w4.cell? ⟨_, 1, none⟩ = some (.int .i64 0) := BX4.cell 1; have yf40 := BX4.free 0; have yf41 := BX4.free 1) | skip)))
        all_goals
          go_wp2_with fail
          go_meet
          first
            | exact ⟨_, rfl, rfl, PrSt.of hr6 g36 BX6 NX6 y v⟩
            | exact ⟨_, rfl, rfl, ⟨hr6.later ((Below.refl _ _).alloc (Nat.le_refl _) _), grown_al g36 _, Blk.new w6 161 #[.int .i64 (y : Int), .int .i64 (v : Int)], g36.size⟩⟩
      obtain ⟨gx, rfl, rfl, PR⟩ := hcut
      generalize wc = w7 at *
      have PG7 : Hid (Pg w7 Z { P with tag := tag, tb := s.t }) := M.out.pg.other M.out.rd.kind (by decide) PR.out.grown
      have SP7 : Hid (Sp w7 gs s.used) := M.out.sp.grown PR.out.grown (fun e => by
        have := Option.some.inj e
        subst this
        have h1 := kind_blk M.out.sp.1
        rw [M.out.rd.kind] at h1
        revert h1
        decide)
      have PT7 : Hid (Pt2 Z w w7) := M.out.ptp.new PR.out.grown (.inr M.out.r0)
      have hB7 : B ≤ w7.heap.size := Nat.le_trans hsz PR.out.grown.size
      have MM := Lib.hid (And.intro M.out.used (And.intro M.out.fresh (And.intro M.out.last (And.intro M.out.r0 M.out.s0))))
      have hx89 : (x : Int) ≤ 89 := hb1.1
      have he3 : er3 ≤ 1000 := hb3.2.2
      have hy1 : (y : Int) ≤ m1 := hb2.1
      obtain ⟨E, hE⟩ : ∃ E, rdEnd r3 er3 = E := ⟨_, rfl⟩
      have HEN : Hid (Calls Tryz.prog 80 #[.pointer (some ⟨gr, 0, none⟩)] w7 fun e w' => e = .returned (.int .i64 (E : Int)) ∧ w7 = w') := by
        have := end_rd gr B r3 er3 w7 PR.out.rd HVL.out
        rwa [hE] at this
      rw [hE] at HPC
      have HFAIL : pcOne P.n s = none → Hid (pgParse P.n body = none) := fun h => by
        have hl : pcLoop P.n (cn - j) s = none := by
          rw [show cn - j = (cn - (j + 1)) + 1 by omega]
          unfold pcLoop
          rw [h]
        rw [Hid, HPG.out, HL.out, hl]
      have hEc : (E = 0 ∨ E = 31) ∨ (E ≠ 0 ∧ E ≠ 31) := by omega
      have HVLE : Hid (r3.length ≤ s.rest.length) := by have := hb1.2.1; have := hb2.2.1; have := hb3.2.1; rw [Hid]; omega
      clear HC1 HC2 HC3 HPB QD QDA d3 d3o hwn hgr hzg hzg2 hb1 hb2 hb3 HVL
      rcases hEc with hE0 | ⟨hE0, hE1⟩
      · by_cases hxl : (x : Int) ≤ s.last
        · have HF := HFAIL (by rw [HPC.out, if_pos (.inr (.inl hxl))])
          clear HFAIL hE
          rcases hE0 with rfl | rfl
          all_goals
            go_wp2_with (first
              | (go_at_call 80; refine HEN.out.mono ?_; rintro e w8 ⟨rfl, rfl⟩)
              | fail)
            go_ret
            exact ⟨.inr ⟨HF.out, rfl⟩, PT7.out⟩
        · have hlx : s.last < (x : Int) := by omega
          have p0 : w7.cell? ⟨gx, 0, none⟩ = some (.int .i64 (y : Int)) := PR.out.blk.cell 0
          have p1 : w7.cell? ⟨gx, 1, none⟩ = some (.int .i64 (v : Int)) := PR.out.blk.cell 1
          have HCL := Lib.hid (claim_any gs s.used (y : Int) w7 SP7.out (by omega))
          by_cases hcl : (claimB s.used (y : Int)).2 = 0
          · obtain ⟨u', hu'⟩ : ∃ u', claimB s.used (y : Int) = (u', 0) := ⟨_, Prod.ext rfl hcl⟩
            have HONE : Hid (pcOne P.n s = some ⟨r3, er3, (x : Int), u', s.t.put (x : Int) (y, v)⟩) := by
              rw [Hid, HPC.out, if_neg, hu']
              rintro (h | h | h)
              · omega
              · omega
              · exact h hcl
            have HU := Lib.hid hu'
            rw [hu'] at HCL
            clear HFAIL hE hcl hu'
            rcases hE0 with rfl | rfl
            all_goals
              go_wp2_with (first
                | (go_at_call 80; refine HEN.out.mono ?_; rintro e w8 ⟨rfl, rfl⟩)
                | (go_at_call 81; refine HCL.out.mono ?_; rintro e w8 ⟨rfl, hs8, hg8, hz8⟩)
                | fail)
              have PG8 := PG7.out.other (kind_blk SP7.out.1) (by decide) hg8
              have PT8 := PT7.out.new hg8 (.inr MM.out.2.2.2.2)
              have RD8 := Lib.hid (PR.out.rd.beside (kind_blk SP7.out.1) (by decide) (by decide) hg8)
              have BX8 := PR.out.blk.grown hg8 (fun e => by
                have := Option.some.inj e
                subst this
                have h1 := kind_blk SP7.out.1
                rw [kind_blk PR.out.blk] at h1
                revert h1
                decide)
              have TB8 : Tbl w8.drew Z.bt s.t := ⟨PG8.tb.in90, PG8.tb.mp.drew⟩
              obtain ⟨wz, w9, cc, r1, t1, r2, h9, t9⟩ := TB8.entry (a := (x : Int)) (by omega) (by omega) (MM.out.2.1 _ hlx) (y, v)
              have d5 : w8.cell? ⟨Z.g, 5, none⟩ = some (.map (some Z.bt)) := PG8.blk.cell 5
              have p0 : w8.cell? ⟨gx, 0, none⟩ = some (.int .i64 (y : Int)) := BX8.cell 0
              have p1 : w8.cell? ⟨gx, 1, none⟩ = some (.int .i64 (v : Int)) := BX8.cell 1
              have BXZ : Blk wz gx 161 #[.int .i64 (y : Int), .int .i64 (v : Int)] := Blk.map (w := w8.drew) BX8 (kind_map TB8.mp) t1
              have z0 : wz.cell? ⟨gx, 0, none⟩ = some (.int .i64 (y : Int)) := BXZ.cell 0
              have z1 : wz.cell? ⟨gx, 1, none⟩ = some (.int .i64 (v : Int)) := BXZ.cell 1
              have PG8d : Pg w8.drew Z { P with tag := tag, tb := s.t } := PG8.later (below_drewN (Below.refl _ _) 1)
              obtain ⟨PG9, PT9⟩ := PG8d.putT h9 t9
              have M9 : Hid (PcM w w9 Z P tag gr gs B ⟨r3, er3, (x : Int), u', s.t.put (x : Int) (y, v)⟩) := by
                refine ⟨PG9, Rd.map (w := w8.drew) RD8.out (kind_map TB8.mp) t9, ⟨Blk.map (w := w8.drew) hs8.1 (kind_map TB8.mp) t9, hs8.2⟩, (PT8.more (below_drewN (Below.refl _ _) 1)).new (wr := w8.drew) t9.grown (.inl (.inr rfl)), he3, ?_, ?_, fun a ha => ?_, ⟨by simp only; omega, hx89⟩, Nat.le_trans (Nat.le_trans hB7 hg8.size) t9.grown.size, MM.out.2.2.2.1, MM.out.2.2.2.2⟩
                · have := HLEN.out; have := HVLE.out; simp only; omega
                · have := claimB_len s.used (y : Int)
                  rw [HU.out] at this
                  exact this.trans MM.out.1
                · have h1 : a ≠ (x : Int) := by simp only at ha; omega
                  exact (if_neg h1).trans (MM.out.2.1 a (by simp only at ha; omega))
              have HL9 : Hid (pcLoop P.n cn ⟨l2, e2, -1, List.replicate P.n false, fun _ => none⟩ = pcLoop P.n (cn - (j + 1)) ⟨r3, er3, (x : Int), u', s.t.put (x : Int) (y, v)⟩) := by
                rw [Hid, HL.out, show cn - j = (cn - (j + 1)) + 1 by omega]
                conv => lhs; unfold pcLoop
                rw [HONE.out]
              clear PG8 PT8 TB8 h9 t9 BX8 BXZ PG8d PG9 PT9 hs8 hg8 hz8 t1
              go_region_law (fail)
              all_goals
                go_wp2_with fail
                go_roundw
                case rel => exact ⟨j + 1, _, by go_num, rfl, by omega, M9, HL9⟩
                case measure => simp [intOf]; omega
          · have HF := HFAIL (by rw [HPC.out, if_pos (.inr (.inr hcl))])
            have h92 : claimB s.used (y : Int) = (s.used, 92) := by
              unfold claimB at hcl ⊢
              split
              · rfl
              · rename_i h
                rw [if_neg h] at hcl
                exact absurd rfl hcl
            rw [h92] at HCL
            clear HFAIL hE hcl h92
            rcases hE0 with rfl | rfl
            all_goals
              go_wp2_with (first
                | (go_at_call 80; refine HEN.out.mono ?_; rintro e w8 ⟨rfl, rfl⟩)
                | (go_at_call 81; refine HCL.out.mono ?_; rintro e w8 ⟨rfl, hs8, hg8, hz8⟩; have PT8 := Lib.hid (PT7.out.new hg8 (.inr MM.out.2.2.2.2)); clear hs8 hg8 hz8)
                | fail)
              go_ret
              exact ⟨.inr ⟨HF.out, rfl⟩, PT8.out⟩
      · have HF := HFAIL (by rw [HPC.out, if_pos (.inl ⟨hE0, hE1⟩)])
        have t0 : (((E : Nat) : Int) == 0) = false := by rw [beq_eq_false_iff_ne]; omega
        have t1 : (((E : Nat) : Int) == 31) = false := by rw [beq_eq_false_iff_ne]; omega
        have t2 : (((E : Nat) : Int) != 0) = true := by rw [bne_iff_ne]; omega
        have t3 : (((E : Nat) : Int) != 31) = true := by rw [bne_iff_ne]; omega
        clear HFAIL hE hE0 hE1
        go_wp2_with (first
          | (go_at_call 80; refine HEN.out.mono ?_; rintro e w8 ⟨rfl, rfl⟩)
          | fail)
        go_ret
        exact ⟨.inr ⟨HF.out, rfl⟩, PT7.out⟩
    · obtain rfl : j = cn := by omega
      have HL0 : Hid (pcLoop P.n j ⟨l2, e2, -1, List.replicate P.n false, fun _ => none⟩ = some s) := by rw [Hid, HL.out, Nat.sub_self]; rfl
      have HPG2 : Hid (pgParse P.n body = if rdEnd s.rest s.err = 0 then some (tag, s.t) else none) := by rw [Hid, HPG.out, HL0.out]
      go_wp2_with fail
      refine (end_rd gr B s.rest s.err wr M.out.rd M.out.len).mono ?_
      rintro e w7 ⟨rfl, rfl⟩
      by_cases hE : rdEnd s.rest s.err = 0
      · rw [hE]
        have HG2 : Hid (pgParse P.n body = some (tag, s.t)) := by rw [Hid, HPG2.out, if_pos hE]
        clear hE
        go_wp2_with fail
        go_ret
        exact ⟨.inl ⟨tag, s.t, HG2.out, rfl, M.out.pg, HTAG.out⟩, M.out.ptp⟩
      · have HG2 : Hid (pgParse P.n body = none) := by rw [Hid, HPG2.out, if_neg hE]
        have hE2 : (((rdEnd s.rest s.err : Nat) : Int) == 0) = false := by rw [beq_eq_false_iff_ne]; omega
        clear hE
        go_wp2_with fail
        go_ret
        exact ⟨.inr ⟨HG2.out, rfl⟩, M.out.ptp⟩
end Go.Proofs.YthbhkdhljlganaaGreatDoor
