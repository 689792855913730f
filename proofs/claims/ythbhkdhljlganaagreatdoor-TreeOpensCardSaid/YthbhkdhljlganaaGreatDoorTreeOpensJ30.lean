/- What the proof of TreeOpens needs, part 30. -/
import Derived.Test.YthbhkdhljlganaaGreatDoorTreeOpensJ1
import Derived.Test.YthbhkdhljlganaaGreatDoorTreeOpensJ28
import Derived.Test.YthbhkdhljlganaaGreatDoorTreeOpensJ29
import Derived.ReadAgain
import Derived.Below
import Derived.ChangeSame
import Derived.ChangeShapes
import Derived.Test.YthbhkdhljlganaaGreatDoorRows
import Derived.ProofKit
import Derived.OpenShut
import Derived.ChangeMaps5
import Derived.Deep.DeepHandedRow
import Derived.Lib.LaidTab
import Derived.Lib.SmallJoins
import Derived.Deep.Slices
import Derived.Deep.Fields

namespace Go.Proofs.YthbhkdhljlganaaGreatDoor
open Go Go.RowKit
set_option linter.unusedVariables false

theorem Tree.shin {P : Pgr} {c : Int → List UInt8} {D : Nat} {t : Ct D} (T : Tree ⟨1, 1, 480⟩ P c D t) : ShIn (P.pg c) D t 0 := by
  refine ⟨fun q hq => ⟨T.rep.rep.at (i := q.1) (p := q.2) hq, (T.ok q hq).1⟩, ⟨[], none, T.wf⟩, FlIn.same (Q := ⟨1, 1, 480⟩) (Q' := ⟨1, 1, 0⟩) rfl rfl T.fl, fun h => ?_, T.zero, by omega⟩
  have := T.root
  cases D with
  | zero => exact absurd h (Nat.lt_irrefl _)
  | succ D => simp only [rootN] at this; omega
theorem Tree.le90 {Q : Prm} {P : Pgr} {c : Int → List UInt8} {D : Nat} {t : Ct D} (T : Tree Q P c D t) : 1 + (Ct.subs D t).length ≤ 90 := by
  have h := T.rep.le90
  unfold allP at h
  rw [List.length_cons] at h
  omega
/-- Amid the law: so many pages are written. -/
structure WrSt (w wr : World) (Z : Pz) (P : Pgr) (c : Int → List UInt8) (i : Nat) : Prop where
  px : Px w wr Z P c
  pr : Pr P c
  hp : Hp P c
  no : i = 0 → P = fP 2000
set_option maxHeartbeats 16000000 in
set_option maxRecDepth 100000 in
theorem law_TreeOpens (v : Value) (xs : List PgA) (w : World) (hb : BitsOk w) (hp : PgAs w v xs) :
    Calls Tryz.prog 3 #[v] w fun e w' => e = .returned (.bool true) ∧ Below w.heap.size w w' := by
  obtain ⟨A, cp, rfl, hxl, hok, hat⟩ := hp
  have hpos := hb.pos
  have HBI := Lib.hid hb
  have HXO := Lib.hid hok
  have HAT := Lib.hid hat
  obtain ⟨c, -⟩ : ∃ c : Int → List UInt8, True := ⟨fun _ => [], trivial⟩
  clear hb hok hat
  go_enter Tryz.func3, Tryz.ntmps3
  go_wp2_with fail
  refine (dnew_any 2000 w (by omega) (by omega)).mono ?_
  rintro e w1 ⟨h, rfl, hd, hnew, hb1⟩
  have HD : Hid (Dp w w1 h (Dsk.new 2000)) := ⟨hd, hnew, hb1⟩
  have HB1 := Lib.hid (HBI.out.later hb1)
  clear hd hnew hb1
  go_wp2_with fail
  refine (awake14_any c w1 HB1.out).mono ?_
  rintro e w2 ⟨rfl, hb2⟩
  have HD2 : Hid (Dp w w2 h (Dsk.new 2000)) := HD.out.later hb2
  have HB2 := Lib.hid (HB1.out.later hb2)
  clear hb2 HB1 HD
  by_cases hx20 : 20 < xs.length
  · go_wp2_with fail
    refine (awake14_any c w2 HB2.out).mono ?_
    rintro e w3 ⟨rfl, hb3⟩
    have HQ := Lib.hid (HD2.out.below.trans (hb3.mono HD2.out.below.size))
    go_wp2_with fail
    go_ret
    exact ⟨rfl, HQ.out⟩
  · have HK := Lib.hid (fP_pr 2000 (by omega) (by omega) c)
    have hx20' : decide ((20 : Int) < (xs.length : Int)) = false := decide_eq_false (by omega)
    go_wp2_with fail
    refine (px_open HD2.out HK.out.1 (by omega) rfl).mono ?_
    rintro e w3 ⟨Z, rfl, hx, hz, -⟩
    have hz0 : ¬ Z.has 0 := hx.z0 hpos
    have R0 : Hid (WrSt w w3 Z (fP 2000) c 0) := ⟨hx, HK.out.2, Hp.new _ _, fun _ => rfl⟩
    clear hx hz
    go_wp2_with fail
    go_loopw [7] (fun iv wr => ∃ (i : Nat) (P : Pgr), iv = .int .i64 (i : Int) ∧ i ≤ xs.length ∧ Hid (WrSt w wr Z P c i)) (fun iv _ => xs.length - (intOf iv).toNat)
    case atStart => exact ⟨0, fP 2000, rfl, by omega, R0⟩
    case round =>
      obtain ⟨i, P, rfl, hi, HW⟩ := hrel
      have HBW := Lib.hid (HBI.out.later HW.out.px.below)
      by_cases hil : i < xs.length
      · obtain ⟨b, o, rfl, hbs, hc⟩ := HAT.out (by omega)
        have hxo := HXO.out _ (List.getElem_mem hil)
        have c0 := (HW.out.px.below.cell (p := ⟨b, o + i * 3, none⟩) hbs).trans (hc i hil).1
        have c1 := (HW.out.px.below.cell (p := ⟨b, o + i * 3 + 1, none⟩) hbs).trans (hc i hil).2.1
        have c2 := (HW.out.px.below.cell (p := ⟨b, o + i * 3 + 2, none⟩) hbs).trans (hc i hil).2.2
        generalize xs[i] = x at *
        obtain ⟨lf, nx, u, cs⟩ := x
        simp only at c0 c1 c2
        obtain ⟨hn, hwd, hcs⟩ := hxo
        simp only at hn hwd hcs
        have HCS := Lib.hid (hcs.later HW.out.px.below)
        have HWD := Lib.hid hwd
        have HN := Lib.hid hn
        clear hc hcs hwd hn
        go_wp2_with fail
        refine (pgbytes_wide _ lf nx u cs wr HBW.out HN.out HWD.out HCS.out).mono ?_
        rintro e w4 ⟨h1, h2, hb4⟩
        by_cases hck : pgChk nx cs = 0
        · obtain ⟨A4, k4, c4, rfl, ho4⟩ := h1 hck
          obtain ⟨n, rfl, hpok⟩ := pok_of_chk (leaf := lf) hck
          have hbytes := POk.bytes hpok
          rw [pgB_of hck] at hbytes
          have HO4 := Lib.hid ho4
          have HX4 := Lib.hid (HW.out.px.later hb4)
          have hi20 : i < 20 := by omega
          have hwhy : pgWhy (i : Int) (sealB (pgF lf (n : Int) cs)) = 0 := by
            unfold pgWhy
            rw [if_neg (by omega), if_neg (by omega)]
          have HWY := Lib.hid hwhy
          have HPB := Lib.hid (pgB_of (leaf := lf) hck)
          have HPOK := Lib.hid hpok
          have hbl : (sealB (pgF lf (n : Int) cs)).length ≤ 2048 := hbytes.1
          clear h1 h2 hck hb4 ho4 hbytes hwhy hpok
          generalize sealB (pgF lf (n : Int) cs) = bb at *
          go_wp2_with fail
          refine (px_write HX4.out (i : Int) _ _ bb (by unfold InI; omega) HO4.out.bs (by omega) rfl).mono ?_
          rintro e w5 ⟨he, hx5, hs5⟩
          rw [HWY.out] at he
          subst he
          have R1 : Hid (WrSt w w5 Z (P.write (i : Int) bb) c (i + 1)) := by
            have e1 : P.wp (i : Int) (lf, n, cs) = P.write (i : Int) bb := by unfold Pgr.wp; rw [HPB.out]
            refine ⟨hx5, (Kin.write P (i : Int) bb).pr HW.out.pr, ?_, fun h => by omega⟩
            rw [← e1]
            exact HW.out.hp.wp HPOK.out (by omega)
          clear hx5 hs5
          go_wp2_with fail
          go_roundw
          case rel => exact ⟨i + 1, _, by go_num, by omega, R1⟩
          case measure => simp [intOf]; omega
        · have he := h2 hck
          subst he
          have hne : ((pgChk nx cs : Int) != 0) = true := by rw [bne_iff_ne]; omega
          have HQ := Lib.hid (HW.out.px.below.trans (hb4.mono HW.out.px.below.size))
          clear h1 h2
          generalize pgChk nx cs = K at *
          go_wp2_with fail
          go_ret
          exact ⟨rfl, HQ.out⟩
      · obtain rfl : i = xs.length := by omega
        have hz0' := hz0
        go_wp2_with fail
        refine (topen_any Z P c wr HW.out.px.pg HW.out.pr HBW.out hz0).mono ?_
        rintro e w4 ⟨hs4, hp4, _, hres⟩
        have HHP := Lib.hid HW.out.hp.op
        have HQ4 := Lib.hid (Turn.below HW.out.px.below hs4.turn HW.out.px.below.size HW.out.px.new)
        by_cases h0 : xs.length = 0
        · obtain rfl := HW.out.no h0
          rw [opP_fP] at hres
          have LO := Lone.new 2000 c
          have hck : chkT ((fT 2000).pg c) (fT 2000).pages.length = true := chk_of_tree (Q := ⟨1, 1, 480⟩) ⟨Nat.le_refl _, Nat.le_refl _⟩ (fT_tree _ _ c)
          rcases hres with ⟨_, g, hg, rfl, hT⟩ | ⟨hno, _⟩
          · have HTT := Lib.hid hT
            have HLO := Lib.hid LO
            have hlen : (xs.length : Int) = 0 := by omega
            clear hT LO hck hp4 hs4
            go_wp2_with fail
            refine (tlen_any g Z (fT 2000) c 1 1 [] ⟨0, 0, (true, 0, [])⟩ [] w4 HTT.out (HLO.out.way []) (by simp) HLO.out.chain (by simp)).mono ?_
            rintro e w5 ⟨rfl, hb5⟩
            have HT5 := Lib.hid (HTT.out.later hb5)
            have HQ5 := Lib.hid (HQ4.out.trans (hb5.mono HQ4.out.size))
            have e5 : (rgTold (([] : List Cel).drop (findK [] [])) [] true (-1)).length = 0 := by decide
            rw [e5]
            clear hb5 e5
            go_wp2_with fail
            refine (tdepth_any g Z (fT 2000) c 1 _ w5 HT5.out (HLO.out.way []) (by simp)).mono ?_
            rintro e w6 ⟨rfl, hb6⟩
            have HT6 := Lib.hid (HT5.out.later hb6)
            have HQ6 := Lib.hid (HQ5.out.trans (hb6.mono HQ5.out.size))
            clear hb6
            go_wp2_with fail
            refine (ppages_any Z (fT 2000) w6 HT6.out.pg).mono ?_
            rintro e w7 ⟨v7, rfl, ho7, hb7⟩
            obtain ⟨A7, k7, c7, rfl⟩ := own_slice ho7
            obtain rfl := own_len ho7
            have e7 : (il (fT 2000).pages).length = 1 := by rw [il_len]; exact HLO.out.len
            rw [e7]
            have HQ7 := Lib.hid (HQ6.out.trans (hb7.mono HQ6.out.size))
            clear hb7 ho7 e7
            go_wp2_with fail
            go_ret
            exact ⟨rfl, HQ7.out⟩
          · rw [hck] at hno
            cases hno
        · have hlen : ((xs.length : Int) == 0) = false := beq_eq_false_iff_ne.2 (by omega)
          rcases hres with ⟨hck, g, hg, rfl, hT⟩ | ⟨_, rfl⟩
          · obtain ⟨D, t, hTr⟩ := tree_of_chk HHP.out.has HHP.out.pf hck
            obtain ⟨l, s, hway, hll, hchain, hfk⟩ := hTr.all
            have hsh := hTr.shin
            have hdep := hsh.dep
            have h90 := hTr.le90
            have hbd := hsh.bd
            have HTT := Lib.hid hT
            have HSH := Lib.hid hsh
            have HWAY := Lib.hid hway
            have HCH := Lib.hid hchain
            have HFK := Lib.hid hfk
            have q5 := (Below.refl w4.heap.size w4).alloc (Nat.le_refl _) (.cells #[.int .i64 200] 3)
            have HL5 := Lib.hid (Blk.new w4 3 #[.int .i64 200])
            have HQ5 := Lib.hid q5
            clear hck hT hTr hsh hway hchain hfk hp4 hs4 q5
            go_wp2_with fail
            refine (shape_any w4.heap.size g Z (opP P) c w4 HTT.out (Nat.le_refl _) D t 0 200 _ HQ5.out HL5.out HSH.out (by omega) (by omega)).mono ?_
            rintro e w6 ⟨A6, k6, A6', k6', n6, is, rfl, hcs6, -, -, -, hT6, -⟩
            have hq6 : Below w4.heap.size w4 w6 := Turn.below HQ5.out hT6 HQ5.out.size (fun b h => by omega)
            have HQ6 := Lib.hid hq6
            have HCS6 := Lib.hid hcs6
            clear hcs6 hT6 hq6
            go_wp2_with fail
            refine (all14_any w6).mono ?_
            rintro e w7 ⟨rfl, hb7⟩
            have HQ7 := Lib.hid (HQ6.out.trans (hb7.mono HQ6.out.size))
            have HB7 := Lib.hid hb7
            clear hb7
            go_wp2_with fail
            have hrg := trange_fwd g Z (opP P) c [] [] true (-1) (D + 1) 91 l s (Ct.cells D t) w7 (HTT.out.later HQ7.out) HWAY.out (by omega) HCH.out (by omega)
            have e0 : rgTold ((Ct.cells D t).drop (findK s.pg.2.2 [])) [] true (-1) = Ct.cells D t := by
              rw [HFK.out]
              exact rgTold_all (by simp) (.inl (by omega))
            rw [e0] at hrg
            refine hrg.mono ?_
            clear hrg e0
            rintro e w8 ⟨A8, c8, rfl, ho8, hb8⟩
            have HO8 := Lib.hid ho8
            have HQ8 := Lib.hid (HQ7.out.trans (hb8.mono HQ7.out.size))
            have HC8 : Hid (Cs (fun b => b < w8.heap.size) w8 (.slice A6 (Ct.cells D t).length k6) (Ct.cells D t)) := (HCS6.out.lt.up HB7.out).up hb8
            clear ho8 hb8
            go_wp2_with fail
            refine (same14_any _ _ _ _ (Ct.cells D t) (Ct.cells D t) w8 HO8.out.cs HC8.out).mono ?_
            rintro e w9 ⟨he, hb9⟩
            rw [decide_eq_true (rfl : Ct.cells D t = Ct.cells D t)] at he
            subst he
            have HQ9 := Lib.hid (HQ4.out.trans ((HQ8.out.trans (hb9.mono HQ8.out.size)).mono HQ4.out.size))
            clear hb9
            go_wp2_with fail
            go_ret
            exact ⟨rfl, HQ9.out⟩
          · clear hp4 hs4
            go_wp2_with fail
            go_ret
            exact ⟨rfl, HQ4.out⟩
end Go.Proofs.YthbhkdhljlganaaGreatDoor

namespace Go.Proofs.YthbhkdhljlganaaGreatDoor
open Go Go.ChangeShapes Go.WideShapes Go.RowKit
set_option linter.unusedVariables false
section
variable {H : Type} {enc : TypeId × Value → H} {P : Program}

theorem trodAll_later {w w' : World} {base : Nat} {sp : Nat → Bool} {hd : Bool} : ∀ {ts : List TypeId} {vs : List Value} {ds : List (DataW H)} {ps : List MemPlace}, DataW.TrodAll enc P w base sp hd ts vs ds ps → (∀ p ∈ ps, w.sameAt w' p) → DataW.TrodAll enc P w' base sp hd ts vs ds ps
  | [], [], [], _, h, _ => h
  | _ :: _, _ :: _, _ :: _, _, ⟨p, q, ⟨n, h1⟩, h2, e⟩, hs => ⟨p, q, ⟨n, DataW.trod_carry n _ _ _ h1 (fun x hx => hs x (by rw [e]; exact List.mem_append_left _ hx))⟩, trodAll_later h2 (fun x hx => hs x (by rw [e]; exact List.mem_append_right _ hx)), e⟩

/-- The post of a law: it returned what the specification says; memory has only grown. -/
theorem law_post {f : Func} {s : ChangeSpec} {W W' : World} {args : Array Value} {v : Value} {ds gs : List (DataW H)} {before : List MemPlace} (K : Kids P (· < P.types.size)) (hz : ∀ t e, t < P.types.size → P.underlying t = some (.slice e) → 0 < P.cellsOf e)
    (hT : ∀ t ∈ f.params.toList, t < P.types.size) (hvs : s.vars = []) (hW : DataW.Whole enc P f.params.toList s.vars false W args.toList ds gs before) (hb : Below W.heap.size W W')
    (hargs : (s.fn H (ds ++ gs)).args = ds) (hvars : (s.fn H (ds ++ gs)).vars = [])
    (hres : DataW.TrodAll enc P W' W.heap.size (fun _ => false) false f.resultTypes.toList (v.resultList f.resultTypes.size) (s.fn H (ds ++ gs)).results []) :
    s.post enc P f false true false false W args v W' := by
  have hlt : ∀ p ∈ before, p.block < W.heap.size := fun p hp => hW.lt p hp
  have hW0 := hW
  obtain ⟨p, q, hA, hV, hpq, hfz, hnd⟩ := hW
  have hold : ∀ x ∈ p, (fun b => decide (b < W.heap.size)) x.block = true := fun x hx => by simpa using hlt x (by rw [hpq]; exact List.mem_append_left _ hx)
  have hA1 := DataW.TrodAll.respare K hz (spare' := fun b => decide (b < W.heap.size)) hT hA hold
  have hA2 := trodAll_later (w' := W') hA1 (fun x hx => hb.same (hlt x (by rw [hpq]; exact List.mem_append_left _ hx)))
  refine ⟨ds, gs, before, [], p, [], hW0, hres, by rw [hargs]; exact hA2, ?_, hb.frame _, fun h => by cases h⟩
  rw [hvs, hvars]
  exact rfl
end
end Go.Proofs.YthbhkdhljlganaaGreatDoor

namespace Go.Proofs.YthbhkdhljlganaaGreatDoor
open Go.ChangeShapes Go.WideShapes Go.ChangeAt Go.RowKit
open Go.ChangeMaps (open_string shut_string)
set_option linter.unusedVariables false

theorem own : ownKnob Tryz.prog.godebug = none := by kernel_rfl
theorem laidOut : laidOutB Tryz.prog = true := by kernel_rfl
/-- The reading stays among the rows of the table of types. -/
theorem kids : Kids Tryz.prog (· < Tryz.prog.types.size) := kids_rows laidOut (by kernel_rfl)
theorem full : ∀ t e, t < Tryz.prog.types.size → Tryz.prog.underlying t = some (.slice e) → 0 < Tryz.prog.cellsOf e := slices_full_of _ (by kernel_rfl)
theorem gTab : Tryz.prog.globalNamed "lapstone/num.bits" = some 0 := by kernel_rfl
theorem gTabType : (Tryz.prog.globals[0]?).map (·.type) = some 221 := by kernel_rfl
theorem cellsT : Tryz.prog.cellsOf 221 = 9 := by kernel_rfl
theorem cellsE : Tryz.prog.cellsOf 220 = 1 := by kernel_rfl

theorem int_bd {x : Int} (h : (Lit.int .i64 x).wf = true) : -9223372036854775808 ≤ x ∧ x ≤ 9223372036854775807 := by
  simp only [Lit.wf, Bool.and_eq_true, decide_eq_true_eq] at h
  exact h
/-- WHAT THE ROWS' LIST GIVES: the table's cells hold its nine numbers. -/
theorem table {W : World} (h : laidMetH Tryz.prog [("lapstone/num.bits", Rows.laid_lapstone_num_bits)] W) : Lib.TabIs Tryz.prog W "lapstone/num.bits" .u64 [0, 8, 16, 24, 32, 40, 48, 56, 64] :=
  Lib.tabIs_of_head (rest := []) gTab gTabType Tryz.underlying221 Tryz.underlying220 cellsE cellsT h
theorem bitsOk {W : World} (h : laidMetH Tryz.prog [("lapstone/num.bits", Rows.laid_lapstone_num_bits)] W) : BitsOk W := by
  intro i hi
  have hc := (table h).cell gTab i hi
  rw [hc]
  match i, hi with
  | 0, _ | 1, _ | 2, _ | 3, _ | 4, _ | 5, _ | 6, _ | 7, _ | 8, _ => rfl

/-- A WORLD FOR THE WITNESS: the settled one, the table (block 0) holding what its initialiser lays. -/
noncomputable def laidWorld (os : Os) : World :=
  { World.holding Tryz.prog os ⟨#[], #[], []⟩ with heap := (World.holding Tryz.prog os ⟨#[], #[], []⟩).heap.modify 0 fun
      | .cells _ t frozen => .cells #[.int .u64 0, .int .u64 8, .int .u64 16, .int .u64 24, .int .u64 32, .int .u64 40, .int .u64 48, .int .u64 56, .int .u64 64] t frozen
      | o => o }
end Go.Proofs.YthbhkdhljlganaaGreatDoor

namespace Go.Proofs.YthbhkdhljlganaaGreatDoor
open Go.ChangeShapes Go.WideShapes Go.ChangeAt Go.RowKit Go.Deep
set_option linter.unusedVariables false
section
variable {H : Type} {enc : TypeId × Value → H} {P : Program} {w : World} {base : Nat} {spare : Nat → Bool} {held : Bool}
/-- A slice of structs, opened: each field's cell and reading. -/
theorem open_slice_fields {t e : TypeId} {fs : Array Field} {fuel : Nat} {cs : List Value} {x : DataW H × List MemPlace} (ht : P.underlying t = some (.slice e)) (he : P.underlying e = some (.struct fs))
    (hone : oneCellFields P fs = true) (hC : P.cellsOf e = fs.size) (h : DataW.trod enc P w base spare held fuel t cs = some x) :
    (cs = [.slice none 0 0] ∧ x = (.nil, [])) ∨
    ∃ (a : Addr) (len cap m : Nat) (D : Nat → DataW H) (Pl : Nat → List MemPlace), cs = [.slice (some a) len cap] ∧ base ≤ a.block ∧ len ≤ cap ∧ cap ≤ maxLen ∧ m = (if spare a.block then cap else len) ∧
      x = (.slice ((List.range len).map D) ((List.range (m - len)).map fun j => D (len + j)), MemPlace.row a (m * fs.size) ++ (List.range m).flatMap Pl) ∧
      ∀ i, i < m → ∃ (ys : List (DataW H × List MemPlace)) (n : Nat), D i = .agg (ys.map (·.1)) ∧ Pl i = ys.flatMap (·.2) ∧ ys.length = fs.size ∧
        ∀ (j : Nat) (f : Field), fs[j]? = some f → ∃ (v : Value) (y : DataW H × List MemPlace), w.cell? (a.add (i * fs.size + j)) = some v ∧ ys[j]? = some y ∧ DataW.trod enc P w base spare held n f.type [v] = some y := by
  rcases open_slice ht h with h0 | ⟨a, len, cap, m, n, D, Pl, hcs, hb, hl, hm, hmm, hx, hi⟩
  · exact .inl h0
  · refine .inr ⟨a, len, cap, m, D, Pl, hcs, hb, hl, hm, hmm, by rw [hC] at hx; exact hx, fun i him => ?_⟩
    obtain ⟨cs', hc, ht'⟩ := hi i him
    rw [hC] at hc
    obtain ⟨ys, n', hn', hy, hlen, hyl, hf⟩ := DataW.trod_struct he ht'
    obtain ⟨_, hcl, hat⟩ := World.cells?_some hc
    simp only [Prod.mk.injEq] at hy
    refine ⟨ys, n', hy.1, hy.2, hyl, fun j f hj => ?_⟩
    obtain ⟨ho, hk⟩ := hone_of hone j f hj
    have hjl : j < fs.size := (Array.getElem?_eq_some_iff.1 hj).1
    have hcell := hat j hjl
    have hv : cs'[j]? = some (cs'[j]'(by omega)) := List.getElem?_eq_getElem (by omega)
    have h1 := hf j f hj
    rw [ho, hk] at h1
    have hone' : (cs'.drop j).take 1 = [cs'[j]'(by omega)] := by
      rw [List.drop_eq_getElem_cons (by omega)]
      rfl
    rw [hone'] at h1
    have hys : ys[j]? = some (ys[j]'(by omega)) := List.getElem?_eq_getElem (by omega)
    refine ⟨_, _, ?_, hys, h1.trans hys⟩
    rw [← Go.Deep.add_add, hcell, hv]
end
end Go.Proofs.YthbhkdhljlganaaGreatDoor

namespace Go.Proofs.YthbhkdhljlganaaGreatDoor
open Go.ChangeShapes Go.WideShapes Go.ChangeAt Go.RowKit Go.Deep
set_option linter.unusedVariables false
section
variable {H : Type} {enc : TypeId × Value → H} {P : Program} {w : World} {base : Nat} {spare : Nat → Bool} {held : Bool}
/-- A slice of structs of two strings reads as cells. -/
theorem open_cels {t e : TypeId} {f0 f1 : Field} {v : Value} {fuel : Nat} {x : DataW H × List MemPlace} (ht : P.underlying t = some (.slice e)) (he : P.underlying e = some (.struct #[f0, f1])) (hone : oneCellFields P #[f0, f1] = true) (hC : P.cellsOf e = 2)
    (h0 : P.underlying f0.type = some .string) (h1 : P.underlying f1.type = some .string) (hf : DataW.trod enc P w base spare held fuel t [v] = some x) :
    ∃ l : List Cel, Cs (fun b => b < w.heap.size) w v l := by
  rcases open_slice_fields ht he hone (by simpa using hC) hf with ⟨hc, _⟩ | ⟨a, len, cap, m, D, Pl, hcs, _, hl, hcm, hm, _, hi⟩
  · obtain rfl : v = .slice none 0 0 := by simpa using hc
    exact ⟨[], Sl.nil⟩
  · have hlm : len ≤ m := by rw [hm]; split <;> omega
    have key : ∀ i, i < len → ∃ x y : ByteArray, w.cell? (a.add (i * 2)) = some (.string x) ∧ w.cell? (a.add (i * 2 + 1)) = some (.string y) := by
      intro i hil
      obtain ⟨ys, n, _, _, _, hfs⟩ := hi i (by omega)
      obtain ⟨v0, y0, c0, _, t0⟩ := hfs 0 f0 rfl
      obtain ⟨v1, y1, c1, _, t1⟩ := hfs 1 f1 rfl
      obtain ⟨x, e0, _, b0⟩ := DataW.trod_string h0 t0
      obtain ⟨y, e1, _, b1⟩ := DataW.trod_string h1 t1
      obtain rfl : v0 = _ := by simpa using e0
      obtain rfl : v1 = _ := by simpa using e1
      exact ⟨x, y, by simpa using c0, by simpa using c1⟩
    obtain rfl : v = .slice (some a) len cap := by simpa using hcs
    refine ⟨(List.range len).map fun i => if h : i < len then ((key i h).choose.data.toList, (key i h).choose_spec.choose.data.toList) else ([], []), ?_⟩
    have hll : ((List.range len).map fun i => if h : i < len then ((key i h).choose.data.toList, (key i h).choose_spec.choose.data.toList) else (([], []) : Cel)).length = len := by simp
    unfold Cs
    rw [hll]
    refine ⟨by rw [ccs_len, hll], some a, cap, rfl, hl, hcm, (fun h => by cases h), fun hl0 => ?_⟩
    obtain ⟨x, y, hc0, _⟩ := key 0 hl0
    have hblt := World.block_lt_of_cell? w _ hc0
    have hspot : a.spot = none := by
      cases hs : a.spot with
      | none => rfl
      | some z =>
        unfold World.cell? at hc0
        split at hc0
        · simp [Addr.add, hs] at hc0
        · cases hc0
    obtain ⟨ab, ao, asp⟩ := a
    simp only at hspot
    subst hspot
    refine ⟨ab, ao, rfl, by simpa [addr_add_none] using hblt, fun j u hu => ?_⟩
    have hjl : j < len * 2 := by
      have := (List.getElem?_eq_some_iff.1 hu).1
      rw [ccs_len, hll] at this
      exact this
    have hq : j / 2 < len := by omega
    have hk := (key (j / 2) hq).choose_spec.choose_spec
    have hat := ccs_at (cs := (List.range len).map fun i => if h : i < len then ((key i h).choose.data.toList, (key i h).choose_spec.choose.data.toList) else (([], []) : Cel)) (j := j / 2) (by rw [hll]; exact hq)
    simp only [List.getElem_map, List.getElem_range, hq, dite_true, st_of] at hat
    have hmod : j = j / 2 * 2 ∨ j = j / 2 * 2 + 1 := by omega
    rcases hmod with h | h
    · rw [h] at hu
      rw [h]
      rw [hat.1] at hu
      injection hu with hu
      subst hu
      exact (congrArg (fun p => w.cell? p) (addr_add_none ab ao (j / 2 * 2))).symm.trans hk.1
    · rw [h] at hu
      rw [h]
      rw [hat.2] at hu
      injection hu with hu
      subst hu
      exact (congrArg (fun p => w.cell? p) (addr_add_none ab ao (j / 2 * 2 + 1))).symm.trans hk.2
end
end Go.Proofs.YthbhkdhljlganaaGreatDoor

namespace Go.Proofs.YthbhkdhljlganaaGreatDoor
open Go.ChangeShapes Go.WideShapes Go.ChangeAt Go.RowKit Go.Deep
set_option linter.unusedVariables false

section
variable {H : Type} {P : Program}
theorem mem_weightsAll {e : TypeId} {ds : List (DataW H)} {d : DataW H} (hd : d ∈ ds) {n : Nat} (hn : n ∈ d.weights P e) : n ∈ DataW.weightsAll P e ds := by
  induction ds with
  | nil => cases hd
  | cons a r ih =>
    rw [DataW.weightsAll, List.mem_append]
    rcases List.mem_cons.1 hd with rfl | hd
    · exact .inl hn
    · exact .inr (ih hd)
/-- All that is reached is of the form's own reach. -/
def Szd (P : Program) (t : TypeId) (d : DataW H) : Prop := ∀ n ∈ d.weights P t, n ≤ reachBytes
theorem Szd.elem {t e : TypeId} {es sp : List (DataW H)} (ht : P.underlying t = some (.slice e)) (h : Szd P t (.slice es sp)) {d : DataW H} (hd : d ∈ es) : Szd P e d := fun n hn => h n (by
  simp only [DataW.weights, ht]
  exact List.mem_cons_of_mem _ (List.mem_append_left _ (mem_weightsAll hd hn)))
theorem Szd.len {t e : TypeId} {es sp : List (DataW H)} (ht : P.underlying t = some (.slice e)) (h : Szd P t (.slice es sp)) : es.length * P.bytesOf e ≤ reachBytes := by
  have h1 := h ((es.length + sp.length) * P.bytesOf e) (by simp [DataW.weights, ht])
  exact Nat.le_trans (Nat.mul_le_mul_right _ (Nat.le_add_right _ _)) h1
theorem Szd.field {t : TypeId} {fs : Array Field} {ps : List (DataW H)} (ht : P.underlying t = some (.struct fs)) (h : Szd P t (.agg ps)) {j : Nat} {f : Field} {d : DataW H} (hf : fs[j]? = some f) (hd : ps[j]? = some d) : Szd P f.type d := fun n hn => h n (by
  simp only [DataW.weights, ht]
  exact DataW.weights_mem_each (j := j) (by simp [hf]) hd n hn)
theorem Szd.str {t : TypeId} {bs : List UInt8} (h : Szd P t (.lit (.string bs) : DataW H)) : bs.length ≤ reachBytes := h _ (by simp [DataW.weights])
theorem reach_eq : reachBytes = 140737488351232 := by decide
end
section
variable {H : Type} {enc : TypeId × Value → H} {P : Program} {w : World} {base : Nat} {spare : Nat → Bool} {held : Bool}
theorem plain_cell3 {w : World} {a : Addr} {v : Value} (h : w.cell? a = some v) : a.spot = none ∧ a.block < w.heap.size := by
  refine ⟨?_, World.block_lt_of_cell? w _ h⟩
  obtain ⟨ab, ao, asp⟩ := a
  cases asp with
  | none => rfl
  | some z =>
    unfold World.cell? at h
    split at h
    · simp at h
    · cases h
theorem st_injV {a b : List UInt8} (h : (Value.string (st a)) = .string (st b)) : a = b := by
  injection h with h
  have := congrArg (fun x : ByteArray => x.data.toList) h
  simpa [st] using this
/-- A slice of structs of two strings reads as cells, and how great they are. -/
theorem open_cels_w {t e : TypeId} {f0 f1 : Field} {v : Value} {fuel : Nat} {x : DataW H × List MemPlace} (ht : P.underlying t = some (.slice e)) (he : P.underlying e = some (.struct #[f0, f1])) (hone : oneCellFields P #[f0, f1] = true) (hC : P.cellsOf e = 2)
    (h0 : P.underlying f0.type = some .string) (h1 : P.underlying f1.type = some .string) (hb : P.bytesOf e = 32) (hf : DataW.trod enc P w base spare held fuel t [v] = some x) (hz : Szd P t x.1) :
    ∃ l : List Cel, Wd l ∧ Cs (fun b => b < w.heap.size) w v l := by
  obtain ⟨l, hl⟩ := open_cels ht he hone hC h0 h1 hf
  refine ⟨l, ?_, hl⟩
  obtain ⟨A, c, hv, _, _, _, hlc⟩ := hl.at
  rcases open_slice_fields ht he hone (by simpa using hC) hf with ⟨hc, _⟩ | ⟨a, len, cap, m, D, Pl, hcs, _, hl', hcm, hm, hxx, hi⟩
  · have : v = .slice none 0 0 := by simpa using hc
    rw [this] at hv
    injection hv with _ h2 _
    refine ⟨by omega, fun c hcm => ?_⟩
    have : 0 < l.length := List.length_pos_of_mem hcm
    omega
  · have hva : v = .slice (some a) len cap := by simpa using hcs
    rw [hva] at hv
    injection hv with h2 h3 h4
    subst h3
    rw [hxx] at hz
    have hlen := Szd.len ht hz
    rw [hb, reach_eq] at hlen
    simp only [List.length_map, List.length_range] at hlen
    have hlm : l.length ≤ m := by rw [hm]; split <;> omega
    refine ⟨by omega, fun c hcm => ?_⟩
    obtain ⟨i, hil, rfl⟩ := List.mem_iff_getElem.1 hcm
    obtain ⟨b, o, hA, _, hcell⟩ := hlc (by omega)
    rw [hA] at h2
    injection h2 with h2
    subst h2
    obtain ⟨k0, k1⟩ := hcell i hil
    obtain ⟨ys, n, hD, _, _, hfs⟩ := hi i (by omega)
    have hzi : Szd P e (D i) := Szd.elem ht hz (List.mem_map.2 ⟨i, List.mem_range.2 hil, rfl⟩)
    rw [hD] at hzi
    obtain ⟨v0, y0, c0, hy0, t0⟩ := hfs 0 f0 rfl
    obtain ⟨v1, y1, c1, hy1, t1⟩ := hfs 1 f1 rfl
    obtain ⟨x0, e0, z0, _⟩ := DataW.trod_string h0 t0
    obtain ⟨x1, e1, z1, _⟩ := DataW.trod_string h1 t1
    obtain rfl : v0 = _ := by simpa using e0
    obtain rfl : v1 = _ := by simpa using e1
    have s0 : Szd P f0.type y0.1 := Szd.field he hzi (j := 0) rfl (by simp [hy0])
    have s1 : Szd P f1.type y1.1 := Szd.field he hzi (j := 1) rfl (by simp [hy1])
    rw [z0] at s0
    rw [z1] at s1
    have l0 := s0.str
    have l1 := s1.str
    simp only [addr_add_none] at c0 c1
    have q0 : (Value.string (st l[i].1)) = .string (st x0.data.toList) := by
      rw [st_of]
      have : some (Value.string (st l[i].1)) = some (.string x0) := by rw [← k0, ← c0]; simp
      exact Option.some.inj this
    have q1 : (Value.string (st l[i].2)) = .string (st x1.data.toList) := by
      rw [st_of]
      have : some (Value.string (st l[i].2)) = some (.string x1) := by rw [← k1, ← c1]; simp [Nat.add_assoc]
      exact Option.some.inj this
    rw [st_injV q0, st_injV q1]
    rw [reach_eq] at l0 l1
    omega
theorem open_pages {r : Reach} {b0 : Nat} {t e ts es : TypeId} {f0 f1 f2 g0 g1 : Field} {v : Value} {d : DataW H} {ps : List MemPlace} (ht : P.underlying t = some (.slice e)) (he : P.underlying e = some (.struct #[f0, f1, f2])) (hone : oneCellFields P #[f0, f1, f2] = true) (hC : P.cellsOf e = 3)
    (h0 : P.underlying f0.type = some .bool) (h1 : P.underlying f1.type = some (.int .i64)) (h2 : f2.type = ts) (hts : P.underlying ts = some (.slice es)) (hes : P.underlying es = some (.struct #[g0, g1])) (hones : oneCellFields P #[g0, g1] = true) (hCs : P.cellsOf es = 2)
    (k0 : P.underlying g0.type = some .string) (k1 : P.underlying g1.type = some .string) (hb : P.bytesOf es = 32) (hval : Value.okWide P w r b0 t v) (h : DataW.Trod enc P w base spare held t v d ps) (hz : Szd P t d) : ∃ xs : List PgA, PgAs w v xs := by
  subst h2
  obtain ⟨fuel, hf⟩ := h
  obtain ⟨a', len', cap', rfl⟩ := okWide_slice ht hval
  rcases open_slice_fields ht he hone (by simpa using hC) hf with ⟨hc, _⟩ | ⟨a, len, cap, m, D, Pl, hcs, _, hl, hcm, hm, hxx, hi⟩
  · obtain ⟨rfl, rfl, rfl⟩ : a' = none ∧ len' = 0 ∧ cap' = 0 := by simpa [Value.cells] using hc
    exact ⟨[], none, 0, rfl, by simp, by simp, fun h => by simp at h⟩
  · have hlm : len ≤ m := by rw [hm]; split <;> omega
    have hxd : d = .slice ((List.range len).map D) ((List.range (m - len)).map fun j => D (len + j)) := congrArg Prod.fst hxx
    rw [hxd] at hz
    have key : ∀ i, i < len → ∃ x : PgA, x.Ok w ∧ w.cell? (a.add (i * 3)) = some (.bool x.leaf) ∧ w.cell? (a.add (i * 3 + 1)) = some (.int .i64 x.next) ∧ w.cell? (a.add (i * 3 + 2)) = some x.v := by
      intro i hil
      obtain ⟨ys, n, hD, _, _, hfs⟩ := hi i (by omega)
      have hzi : Szd P e (D i) := Szd.elem ht hz (List.mem_map.2 ⟨i, List.mem_range.2 hil, rfl⟩)
      rw [hD] at hzi
      obtain ⟨v0, y0, c0, _, t0⟩ := hfs 0 f0 rfl
      obtain ⟨v1, y1, c1, _, t1⟩ := hfs 1 f1 rfl
      obtain ⟨v2, y2, c2, hy2, t2⟩ := hfs 2 f2 rfl
      obtain ⟨x, e0, _⟩ := DataW.trod_bool h0 t0
      obtain ⟨y, e1, _, b1⟩ := DataW.trod_int h1 t1
      obtain rfl : v0 = _ := by simpa using e0
      obtain rfl : v1 = _ := by simpa using e1
      have s2 : Szd P f2.type y2.1 := Szd.field he hzi (j := 2) rfl (by simp [hy2])
      obtain ⟨l, hwd, hcs⟩ := open_cels_w hts hes hones hCs k0 k1 hb t2 s2
      exact ⟨⟨x, y, v2, l⟩, ⟨int_bd b1, hwd, hcs⟩, by simpa using c0, by simpa using c1, by simpa using c2⟩
    obtain ⟨rfl, rfl, rfl⟩ : a' = some a ∧ len' = len ∧ cap' = cap := by simpa [Value.cells] using hcs
    have hll : ((List.range len').map fun i => if h : i < len' then (key i h).choose else (⟨false, 0, .slice none 0 0, []⟩ : PgA)).length = len' := by simp
    refine ⟨(List.range len').map fun i => if h : i < len' then (key i h).choose else (⟨false, 0, .slice none 0 0, []⟩ : PgA), some a, cap', by rw [hll], by rw [hll]; simp only [maxLen] at hcm; omega, ?_, fun hl0 => ?_⟩
    · intro y hy
      obtain ⟨i, hi', rfl⟩ := List.mem_map.1 hy
      have hil := List.mem_range.1 hi'
      simp only [hil, dite_true]
      exact (key i hil).choose_spec.1
    · rw [hll] at hl0
      obtain ⟨x, _, hc0, _⟩ := key 0 hl0
      obtain ⟨ab, ao, asp⟩ := a
      obtain ⟨hsp, hblt⟩ := plain_cell3 hc0
      simp [Addr.add] at hsp hblt
      subst hsp
      refine ⟨ab, ao, rfl, hblt, fun j hj => ?_⟩
      have hjl : j < len' := by rw [hll] at hj; exact hj
      have hk := (key j hjl).choose_spec.2
      simp only [List.getElem_map, List.getElem_range, hjl, dite_true]
      generalize (key j hjl).choose = y at hk ⊢
      simp only [addr_add_none, ← Nat.add_assoc] at hk
      exact hk
end
end Go.Proofs.YthbhkdhljlganaaGreatDoor
