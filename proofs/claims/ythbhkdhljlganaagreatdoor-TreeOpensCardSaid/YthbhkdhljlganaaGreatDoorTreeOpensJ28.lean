/- What the proof of TreeOpens needs, part 28. -/
import Derived.Test.YthbhkdhljlganaaGreatDoorTreeOpensJ1
import Derived.Test.YthbhkdhljlganaaGreatDoorTreeOpensJ2
import Derived.Test.YthbhkdhljlganaaGreatDoorTreeOpensJ10
import Derived.Test.YthbhkdhljlganaaGreatDoorTreeOpensJ22
import Derived.Test.YthbhkdhljlganaaGreatDoorTreeOpensJ27

namespace Go.Proofs.YthbhkdhljlganaaGreatDoor
open Go Go.RowKit
set_option linter.unusedVariables false

set_option maxHeartbeats 1000000 in
theorem tlen_any (g : Nat) (Z : Pz) (P : Pgr) (c : Int → List UInt8) (n0 m0 : Nat) (l : List TStp) (s : TStp) (C : List Cel) (w : World)
    (ht : Tg w g Z P c) (hw : wayF (P.pgD c) [] n0 0 = some (l ++ [s])) (hL : l.length ≤ 999) (hC : chainF (P.pgD c) m0 s.pg = some C) (hCl : C.length ≤ 1000000) :
    Calls Tryz.prog 11 #[.pointer (some ⟨g, 0, none⟩)] w fun e w' => e = .returned (.int .i64 ((rgTold (C.drop (findK s.pg.2.2 [])) [] true (-1)).length : Int)) ∧ Below w.heap.size w w' := by
  have HT := Lib.hid ht
  have HW := Lib.hid hw
  have HC := Lib.hid hC
  clear ht hw hC
  go_enter Tryz.func11, Tryz.ntmps11
  go_wp2_with fail
  refine (trange_fwd g Z P c [] [] true (-1) n0 m0 l s C w HT.out HW.out hL HC.out hCl).mono ?_
  rintro e w1 ⟨A, c1, rfl, ho, hb⟩
  obtain ⟨R, hR⟩ : ∃ R, rgTold (C.drop (findK s.pg.2.2 [])) [] true (-1) = R := ⟨_, rfl⟩
  rw [hR]
  have HR := Lib.hid hR
  clear ho hR
  go_wp2_with fail
  go_ret
  rw [HR.out]
  exact ⟨rfl, hb⟩

/-- What Seek's function keeps. -/
structure SkJ (g1 g2 : Nat) (T : List Cel) (fp : Nat → Prop) (w : World) : Prop where
  no : T = []
  fp : fp = fun q => q = g1 ∨ q = g2
  out : Blk w g1 81 #[.string (st []), .string (st [])]
  ok : Blk w g2 4 #[.bool false]
def SkE (g1 g2 : Nat) (T : List Cel) (c : Cel) (w : World) : Prop := T = [] ∧ Blk w g1 81 #[.string (st c.1), .string (st c.2)] ∧ Blk w g2 4 #[.bool true]
def SkPost (g1 g2 : Nat) (T : List Cel) (fp : Nat → Prop) (cc : Cel) (w : World) (e : Ending) (w' : World) : Prop := ∃ b fp', e = .returned (.bool b) ∧ Turn fp w w' ∧ (∀ x, fp' x → fp x ∨ w.heap.size ≤ x) ∧ (∀ x, fp' x → x < w'.heap.size) ∧
      (b = true → SkJ g1 g2 (T ++ [cc]) fp' w') ∧ (b = false → SkE g1 g2 T cc w')
set_option maxHeartbeats 2000000 in
theorem sktake_any (g1 g2 : Nat) (T : List Cel) (fp : Nat → Prop) (ck cv : List UInt8) (w : World) (h : SkJ g1 g2 T fp w) :
    Calls Tryz.prog 70 #[.agg #[.string (st ck), .string (st cv)], .pointer (some ⟨g1, 0, none⟩), .pointer (some ⟨g2, 0, none⟩)] w (SkPost g1 g2 T fp (ck, cv) w) := by
  have q1 := (Below.refl w.heap.size w).alloc (Nat.le_refl _) (.cells #[.string (st ck), .string (st cv)] 81)
  have hb1 := h.out.later q1
  have hb2 := h.ok.later q1
  have bn := Blk.new w 81 #[.string (st ck), .string (st cv)]
  have HN := Lib.hid h.no
  have HF := Lib.hid h.fp
  have HQ := Lib.hid q1
  have H1 := Lib.hid hb1
  have H2 := Lib.hid hb2
  have h1l := h.out.lt
  have h2l := h.ok.lt
  clear h q1
  have HBN := Lib.hid bn
  have hne : g1 ≠ g2 := Blk.ne hb1 hb2 (by decide)
  have hne2 : g2 ≠ g1 := hne.symm
  clear hb1 hb2 bn
  go_enter Tryz.func70, Tryz.ntmps70
  go_upto_region 1 with (fail)
  have hz : (w.alloc (.cells #[.string (st ck), .string (st cv)] 81)).heap.size = w.heap.size + 1 := by simp
  generalize w.alloc (.cells #[.string (st ck), .string (st cv)] 81) = W at *
  have HZ := Lib.hid hz
  clear hz
  have c0 : (W).cell? ⟨w.heap.size, 0, none⟩ = some (.string (st ck)) := HBN.out.cell 0
  have c1 : (W).cell? ⟨w.heap.size, 1, none⟩ = some (.string (st cv)) := HBN.out.cell 1
  have a0 : (W).cell? ⟨g1, 0, none⟩ = some (.string (st [])) := H1.out.cell 0
  have a1 : (W).cell? ⟨g1, 1, none⟩ = some (.string (st [])) := H1.out.cell 1
  have af0 : (W).frozen? ⟨g1, 0, none⟩ = false := H1.out.free 0
  have af1 : (W).frozen? ⟨g1, 1, none⟩ = false := H1.out.free 1
  have b0 : (W).cell? ⟨g2, 0, none⟩ = some (.bool false) := H2.out.cell 0
  have bf0 : (W).frozen? ⟨g2, 0, none⟩ = false := H2.out.free 0
  go_wp2_with fail
  go_ret
  have hT : Turn fp w (((W.setCell ⟨g1, 0, none⟩ (.string (st ck))).setCell ⟨g1, 1, none⟩ (.string (st cv))).setCell ⟨g2, 0, none⟩ (.bool true)) := by
    rw [HF.out]
    exact (((Turn.of_below HQ.out).setCell (p := ⟨g1, 0, none⟩) (.inl (.inl rfl)) _).setCell (p := ⟨g1, 1, none⟩) (.inl (.inl rfl)) _).setCell (p := ⟨g2, 0, none⟩) (.inl (.inr rfl)) _
  refine ⟨false, fp, rfl, hT, fun x hx => .inl hx, fun x hx => ?_, (fun h => by cases h), fun _ => ⟨HN.out, (H1.out.put2 _ _).far (p := ⟨g2, 0, none⟩) hne _, ((H2.out.far (p := ⟨g1, 0, none⟩) hne2 _).far (p := ⟨g1, 1, none⟩) hne2 _).put1 _⟩⟩
  rw [HF.out] at hx
  have h3 := HZ.out
  have e : (((W.setCell ⟨g1, 0, none⟩ (.string (st ck))).setCell ⟨g1, 1, none⟩ (.string (st cv))).setCell ⟨g2, 0, none⟩ (.bool true)).heap.size = W.heap.size := by simp
  rw [e]
  rcases hx with rfl | rfl <;> omega

theorem results_cb {fn : Func} {p q : Tmp} {ty : TypeId} (h : fn.results = #[.cell p ty, .cell q 4]) (tmps : Array Value) (w : World) (g g' : Nat) {t : TypeId} {cs : Array Value} {b : Bool}
    (hp : tmps.getD p undef = .pointer (some ⟨g, 0, none⟩)) (hq : tmps.getD q undef = .pointer (some ⟨g', 0, none⟩)) (hg : Blk w g t cs) (hb : w.cell? ⟨g', 0, none⟩ = some (.bool b)) (hS : StructTy Tryz.prog ty cs.size) :
    (results fn tmps).run Tryz.prog w = .ok (.tuple #[.agg cs, .bool b]) w := by
  have hp' : tmps[p]?.getD undef = .pointer (some ⟨g, 0, none⟩) := by simpa using hp
  have hq' : tmps[q]?.getD undef = .pointer (some ⟨g', 0, none⟩) := by simpa using hq
  have hl : (loadVar 4 ⟨g', 0, none⟩).run Tryz.prog w = .ok (.bool b) w := by
    simp [loadVar, go_sem, hb]
  simp [results, h, hp', hq', asAddr, loadVar_blk hg hS, hl]
/-- The first cell told, or none. -/
def headV (X : List Cel) : Cel × Bool := match X with
  | [] => (([], []), false)
  | c :: _ => (c, true)
def SeekPost (X : List Cel) (w : World) (e : Ending) (w' : World) : Prop := e = .returned (.tuple #[.agg #[.string (st (headV X).1.1), .string (st (headV X).1.2)], .bool (headV X).2]) ∧ Below w.heap.size w w'
set_option maxHeartbeats 4000000 in
set_option maxRecDepth 100000 in
theorem tseek_any (g : Nat) (Z : Pz) (P : Pgr) (c : Int → List UInt8) (key : List UInt8) (n0 m0 : Nat) (l : List TStp) (s : TStp) (C : List Cel) (w : World)
    (ht : Tg w g Z P c) (hw : wayF (P.pgD c) key n0 0 = some (l ++ [s])) (hL : l.length ≤ 999) (hC : chainF (P.pgD c) m0 s.pg = some C) :
    Calls Tryz.prog 31 #[.pointer (some ⟨g, 0, none⟩), .string (st key)] w (SeekPost (C.drop (findK s.pg.2.2 key)) w) := by
  have hmf := run_makeFunc Tryz.prog
  have HT := Lib.hid ht
  have HW := Lib.hid hw
  have HC := Lib.hid hC
  have b1 := (Blk.new w 81 #[.string (st []), .string (st [])]).alloc (.cells #[.bool false] 4)
  have b2 := Blk.new1 w (.cells #[.string (st []), .string (st [])] 81) 4 #[.bool false]
  have q2 : Below w.heap.size w ((w.alloc (.cells #[.string (st []), .string (st [])] 81)).alloc (.cells #[.bool false] 4)) := ((Below.refl _ _).alloc (Nat.le_refl _) _).alloc (by simp) _
  have B1 := Lib.hid b1
  have B2 := Lib.hid b2
  have HQ := Lib.hid q2
  clear ht hw hC b1 b2 q2
  go_enter Tryz.func31, Tryz.ntmps31
  go_wp2_with fail
  have e0 : (⟨#[]⟩ : ByteArray) = st [] := rfl
  rw [e0]
  generalize (w.alloc (.cells #[.string (st []), .string (st [])] 81)).alloc (.cells #[.bool false] 4) = W at *
  obtain ⟨X, hX⟩ : ∃ X, C.drop (findK s.pg.2.2 key) = X := ⟨_, rfl⟩
  have hl1 := B1.out.lt
  have hl2 := B2.out.lt
  have hTak : Tak 70 #[.pointer (some ⟨w.heap.size, 0, none⟩), .pointer (some ⟨w.heap.size + 1, 0, none⟩)] (SkJ w.heap.size (w.heap.size + 1)) (SkE w.heap.size (w.heap.size + 1)) X :=
    ⟨fun _ _ => rfl, fun T cc R fp wr hXX hJ => sktake_any _ _ T fp cc.1 cc.2 wr hJ, fun T fp wr wr' hJ hb hz => ⟨hJ.no, hJ.fp, (hb _ (by rw [hJ.fp]; exact .inl rfl)).trans hJ.out, (hb _ (by rw [hJ.fp]; exact .inr rfl)).trans hJ.ok⟩⟩
  have hfr := tfrom_any g Z P c key n0 m0 l s 70 #[.pointer (some ⟨w.heap.size, 0, none⟩), .pointer (some ⟨w.heap.size + 1, 0, none⟩)] (SkJ w.heap.size (w.heap.size + 1)) (SkE w.heap.size (w.heap.size + 1)) C (fun q => q = w.heap.size ∨ q = w.heap.size + 1) w W HT.out HQ.out HW.out hL HC.out (by rw [hX]; exact hTak) ⟨rfl, rfl, B1.out, B2.out⟩ (fun q hq => by rcases hq with rfl | rfl <;> omega)
  rw [hX] at hfr ⊢
  have HX := Lib.hid hX
  refine hfr.mono ?_
  rintro e w5 ⟨rfl, hb5, hres⟩
  obtain ⟨c1, c2⟩ : Blk w5 w.heap.size 81 #[.string (st (headV X).1.1), .string (st (headV X).1.2)] ∧ Blk w5 (w.heap.size + 1) 4 #[.bool (headV X).2] := by
    rcases hres with ⟨fp, hJ⟩ | ⟨T, cc, R, hXX, h1, h2, h3⟩
    · rw [hJ.no]
      exact ⟨hJ.out, hJ.ok⟩
    · subst h1
      rw [hXX]
      exact ⟨h2, h3⟩
  obtain ⟨⟨⟨hk, hv⟩, ho⟩, hr⟩ : ∃ r, headV X = r := ⟨_, rfl⟩
  rw [hr] at c1 c2
  simp only at c1 c2
  have HB5 := Lib.hid hb5
  have C1 := Lib.hid c1
  have C2 := Lib.hid c2
  have HR := Lib.hid hr
  have a0 : (w5).cell? ⟨w.heap.size, 0, none⟩ = some (.string (st hk)) := c1.cell 0
  have a1 : (w5).cell? ⟨w.heap.size, 1, none⟩ = some (.string (st hv)) := c1.cell 1
  have af0 : (w5).frozen? ⟨w.heap.size, 0, none⟩ = false := c1.free 0
  have af1 : (w5).frozen? ⟨w.heap.size, 1, none⟩ = false := c1.free 1
  have b0 : (w5).cell? ⟨w.heap.size + 1, 0, none⟩ = some (.bool ho) := c2.cell 0
  have bf0 : (w5).frozen? ⟨w.heap.size + 1, 0, none⟩ = false := c2.free 0
  clear c1 c2 hr hb5 hres hfr hTak hX
  go_wp2_with fail
  go_region
  go_wp2_with fail
  have hne : w.heap.size ≠ w.heap.size + 1 := by omega
  have D1 := (C1.out.put2 (.string (st hk)) (.string (st hv))).far (p := ⟨w.heap.size + 1, 0, none⟩) hne (.bool ho)
  have D2 := ((C2.out.far (p := ⟨w.heap.size, 0, none⟩) hne.symm (.string (st hk))).far (p := ⟨w.heap.size, 1, none⟩) hne.symm (.string (st hv))).put1 (.bool ho)
  have k2 := D2.cell 0
  have hB6 := ((HB5.out.setCell (p := ⟨w.heap.size, 0, none⟩) (Nat.le_refl _) (.string (st hk))).setCell (p := ⟨w.heap.size, 1, none⟩) (Nat.le_refl _) (.string (st hv))).setCell (p := ⟨w.heap.size + 1, 0, none⟩) (by simp only; omega) (.bool ho)
  refine bodyPost_ret (results_cb rfl _ _ w.heap.size (w.heap.size + 1) rfl rfl D1 k2 cellTy) rfl ?_
  unfold SeekPost
  rw [HX.out, HR.out]
  exact ⟨rfl, by first | exact hB6 | exact hB6.drew | exact below_drewN hB6 _⟩
end Go.Proofs.YthbhkdhljlganaaGreatDoor

namespace Go.Proofs.YthbhkdhljlganaaGreatDoor
open Go Go.RowKit
set_option linter.unusedVariables false

set_option maxHeartbeats 4000000 in
set_option maxRecDepth 100000 in
theorem tbefore_leaf (g : Nat) (Z : Pz) (P : Pgr) (c : Int → List UInt8) (key : List UInt8) (n0 : Nat) (l : List TStp) (s : TStp) (w : World)
    (ht : Tg w g Z P c) (hw : wayF (P.pgD c) key n0 0 = some (l ++ [s])) (hL : l.length ≤ 999) (h0 : 0 < findK s.pg.2.2 key) :
    Calls Tryz.prog 32 #[.pointer (some ⟨g, 0, none⟩), .string (st key)] w fun e w' => e = .returned (.tuple #[.agg #[.string (st (cellAt s.pg.2.2 (findK s.pg.2.2 key - 1)).1), .string (st (cellAt s.pg.2.2 (findK s.pg.2.2 key - 1)).2)], .bool true]) ∧ Below w.heap.size w w' := by
  have HWO := Lib.hid (WayOk.of hw)
  have HW := Lib.hid hw
  have q0 := (Below.refl w.heap.size w).alloc (Nat.le_refl _) (.cells #[.string ⟨#[]⟩, .string ⟨#[]⟩] 81)
  have HT := Lib.hid (ht.later q0)
  have HQ := Lib.hid q0
  have HB := Lib.hid (Blk.new w 81 #[.string ⟨#[]⟩, .string ⟨#[]⟩])
  clear ht hw q0
  go_enter Tryz.func32, Tryz.ntmps32
  go_wp2_with fail
  generalize hW : w.alloc (.cells #[.string ⟨#[]⟩, .string ⟨#[]⟩] 81) = W at *
  clear hW
  have hzw := HB.out.lt
  refine (tway_any g Z P c key n0 (l ++ [s]) W HT.out HW.out (by simp; omega)).mono ?_
  rintro e w1 ⟨A, k1, c1, ls, rfl, hs, hm, hb1⟩
  obtain ⟨l', ⟨s', u⟩, rfl⟩ := snoc_of (l := ls) (fun e => by rw [e] at hm; simp at hm)
  rw [List.map_append] at hm
  obtain ⟨hm1, hm2⟩ := List.append_inj' hm rfl
  obtain rfl : s' = s := by simpa using hm2
  subst hm1
  obtain rfl : k1 = l'.length + 1 := by have := hs.len; simpa using this
  obtain ⟨hsp, b1, o1, rfl, hb1S, hcel, hc1, hc1m, hcs⟩ := hs.pop
  obtain ⟨sid, sat, slf, sn, scs⟩ := s'
  simp only at hcs h0 ⊢
  obtain ⟨A2, c2, rfl, _⟩ := hcs.at
  have e2 := hcel 2 _ rfl
  have e3 := hcel 3 _ rfl
  have e4 := hcel 4 _ rfl
  have hll2 : l'.length ≤ 1000 := by simp at hL; omega
  have hn2 : IntKind.i64.wrap (l'.length : Int) = (l'.length : Int) := i64_inp (by omega) (by omega)
  have HQ1 := Lib.hid (HQ.out.trans (hb1.mono HQ.out.size))
  have HB1 := Lib.hid (HB.out.later hb1)
  have HCS := Lib.hid hcs
  have hpo := HWO.out.pg ⟨sid, sat, slf, sn, scs⟩ (by simp)
  have HPO := Lib.hid hpo
  have hcl := cells_len hpo.1
  simp only at hcl
  clear hsp hcs hcel hs hm hm2 hpo HW hL HT HQ HB
  go_upto_region 3 with (fail)
  have q2 := (Below.refl w1.heap.size w1).alloc (Nat.le_refl _) (.cells #[.bool slf, .int .i64 (sn : Int), .slice A2 scs.length c2] 36)
  have HQ2 := Lib.hid (HQ1.out.trans (q2.mono HQ1.out.size))
  have HP2 := Lib.hid (Blk.new w1 36 #[.bool slf, .int .i64 (sn : Int), .slice A2 scs.length c2])
  have HB2 := Lib.hid (HB1.out.later q2)
  have HCS2 : Hid (Cs (fun b => W.heap.size ≤ b ∧ b < w1.heap.size) (w1.alloc (.cells #[.bool slf, .int .i64 (sn : Int), .slice A2 scs.length c2] 36)) (.slice A2 scs.length c2) scs) := Sl.below HCS.out q2 fun b h => h.2
  have hz1 := HP2.out.lt
  clear q2 e2 e3 e4 HQ1 HB1 HCS hb1S hb1
  generalize w1.alloc (.cells #[.bool slf, .int .i64 (sn : Int), .slice A2 scs.length c2] 36) = W2 at *
  generalize w1.heap.size = gx at *
  have x0 : (W2).cell? ⟨gx, 0, none⟩ = some (.bool slf) := HP2.out.cell 0
  have x1 : (W2).cell? ⟨gx, 1, none⟩ = some (.int .i64 (sn : Int)) := HP2.out.cell 1
  have x2 : (W2).cell? ⟨gx, 2, none⟩ = some (.slice A2 scs.length c2) := HP2.out.cell 2
  go_wp2_with fail
  refine (pfind_any _ slf (sn : Int) _ scs key W2 (by omega) HCS2.out HPO.out.1.asc.rises).mono ?_
  rintro e w3 ⟨rfl, hb3⟩
  have hK := findK_le scs key
  obtain ⟨K, hKK⟩ : ∃ K, findK scs key = K + 1 := ⟨findK scs key - 1, by omega⟩
  have HB3 := Lib.hid (HB2.out.later hb3)
  have HQ3 := Lib.hid (HQ2.out.trans (hb3.mono HQ2.out.size))
  have HP3 := Lib.hid (HP2.out.later hb3)
  have HC3 : Hid (Cs (fun b => W.heap.size ≤ b ∧ b < gx) w3 (.slice A2 scs.length c2) scs) := Sl.below HCS2.out hb3 fun b h => Nat.lt_trans h.2 hz1
  have HKK := Lib.hid hKK
  rw [hKK] at hK ⊢
  obtain ⟨bA, oA, rfl⟩ := Cs.some HC3.out (by omega)
  have hlt : K < scs.length := by omega
  have hcg := Cs.get HC3.out hlt
  have hca := cellAt_get hlt
  have HCA := Lib.hid hca
  generalize scs[K] = ce at *
  obtain ⟨ck, cv⟩ := ce
  obtain ⟨g0, g1⟩ := hcg
  simp only at g0 g1
  have hK1 : IntKind.i64.wrap (((K + 1 : Nat) : Int) - 1) = (K : Int) := by rw [show ((K + 1 : Nat) : Int) - 1 = (K : Int) by omega]; exact i64_inp (by omega) (by omega)
  have hK2 : IntKind.i64.wrap ((K : Int) + 1 - 1) = (K : Int) := by rw [show (K : Int) + 1 - 1 = (K : Int) by omega]; exact i64_inp (by omega) (by omega)
  have hK3 : IntKind.i64.wrap (K : Int) = (K : Int) := i64_inp (by omega) (by omega)
  have hi0 : (0 : Int) ≤ (K : Int) := by omega
  have hi1 : (K : Int) < (scs.length : Int) := by omega
  clear hb3 x0 x1 x2 hKK hca HP2 HB2 HCS2
  have r0 : (w3).cell? ⟨w.heap.size, 0, none⟩ = some (.string ⟨#[]⟩) := HB3.out.cell 0
  have r1 : (w3).cell? ⟨w.heap.size, 1, none⟩ = some (.string ⟨#[]⟩) := HB3.out.cell 1
  have rf0 : (w3).frozen? ⟨w.heap.size, 0, none⟩ = false := HB3.out.free 0
  have rf1 : (w3).frozen? ⟨w.heap.size, 1, none⟩ = false := HB3.out.free 1
  have x0 : (w3).cell? ⟨gx, 0, none⟩ = some (.bool slf) := HP3.out.cell 0
  have x1 : (w3).cell? ⟨gx, 1, none⟩ = some (.int .i64 (sn : Int)) := HP3.out.cell 1
  have x2 : (w3).cell? ⟨gx, 2, none⟩ = some (.slice (some ⟨bA, oA, none⟩) scs.length c2) := HP3.out.cell 2
  go_wp2_with fail
  refine bodyPost_ret (results_cell2 rfl _ _ w.heap.size rfl (HB3.out.put2 _ _) cellTy) rfl ?_
  refine ⟨?_, below_put2 HQ3.out (Nat.le_refl _) _ _⟩
  rw [HKK.out, Nat.add_sub_cancel, HCA.out]
  rfl
end Go.Proofs.YthbhkdhljlganaaGreatDoor

namespace Go.Proofs.YthbhkdhljlganaaGreatDoor
open Go
set_option linter.unusedVariables false

/-- A pager that is new, at sector 0, of 200 places. -/
def fP (n : Nat) : Pgr := pgNew (Dsk.new n) 0 200 0 1 (0, fun _ => none)
theorem fP_has (n : Nat) (i : Int) : (fP n).has i = false := rfl
theorem fP_rep (n : Nat) (c : Int → List UInt8) : RepP (fP n) c [] := by
  have hp : ∀ i, (fP n).pg c i = none := fun i => by unfold Pgr.pg Pgr.page; rw [fP_has]; rfl
  refine ⟨⟨fun i p => ?_, by simp, fun q hq => by cases hq⟩, fun i => by rw [fP_has, hp]; rfl⟩
  rw [hp]
  constructor
  · intro h; cases h
  · rintro ⟨m, _, h⟩; cases h
theorem leaf0_ok : POk (true, 0, []) := by
  refine POk.mk' (by decide) rfl ?_
  have := pgSz_few (next := 0) (cs := []) (by omega) (by simp)
  show pgSz ((0 : Nat) : Int) [] ≤ 2048
  simp [celsN] at this
  simp
  omega
/-- The pages that a new tree has. -/
def fT (n : Nat) : Pgr := (fP n).wp 0 (true, 0, [])
theorem fT_tree (Q : Prm) (n : Nat) (c : Int → List UInt8) : Tree Q (fT n) c 0 (show Ct 0 from (0, [])) := by
  have h := (fP_rep n c).new (i := 0) (x := (true, 0, [])) (by simp) (by omega) leaf0_ok
  refine ⟨h, ⟨List.Pairwise.nil, fun x hx => by cases hx⟩, fun q hq => ?_, ⟨rfl, trivial⟩, trivial, by unfold rootN Ct.n; simp⟩
  obtain rfl := List.mem_singleton.1 (show q ∈ [(0, ((true, 0, []) : Pag))] from hq)
  exact ⟨leaf0_ok, by unfold KOk; simp⟩
theorem opP_fP (n : Nat) : opP (fP n) = fT n := by
  have : (fP n).pages.length = 0 := by
    have := (fP_rep n (fun _ => [])).len
    simpa using this
  unfold opP
  rw [if_pos this]
  rfl
end Go.Proofs.YthbhkdhljlganaaGreatDoor

namespace Go.Proofs.YthbhkdhljlganaaGreatDoor
open Go Go.RowKit
set_option linter.unusedVariables false

/-- A tree of the law's own. -/
structure Tx (w W : World) (g : Nat) (Z : Pz) (P : Pgr) (c : Int → List UInt8) : Prop where
  T : Tg W g Z P c
  new : ∀ b, Z.has b → w.heap.size ≤ b
  g0 : w.heap.size ≤ g
  below : Below w.heap.size w W
theorem Tx.later {w W W' : World} {g : Nat} {Z : Pz} {P : Pgr} {c : Int → List UInt8} (h : Tx w W g Z P c) (hb : Below W.heap.size W W') : Tx w W' g Z P c := ⟨h.T.later hb, h.new, h.g0, h.below.trans (hb.mono h.below.size)⟩
theorem Tx.done {w W W' : World} {g : Nat} {Z : Pz} {P P' : Pgr} {c : Int → List UInt8} (h : Tx w W g Z P c) (d : TgDone g Z P' c W W') : Tx w W' g Z P' c := ⟨d.1, h.new, h.g0, Turn.below h.below d.2.turn h.below.size h.new⟩
theorem fP_pr (n : Nat) (hn : n ≤ 65536) (h1 : 802 ≤ n) (c : Int → List UInt8) : Kp (Dsk.new n) 0 200 0 1 0 (fun _ => none) c ∧ Pr (fP n) c := by
  have hk : Kp (Dsk.new n) 0 200 0 1 0 (fun _ => none) c := Kp.start (Still.new (by omega) (by omega)) (fun _ => rfl) (by omega) (by omega) (by omega) (by simp [Dsk.new]; omega)
  exact ⟨hk, hk.mj.still.ok, fun i p l h => (by cases h), fun x b h => (by cases h), by simp [fP, pgNew], by simp [fP, pgNew]⟩
def Fresh14 (c : Int → List UInt8) (w : World) (e : Ending) (w' : World) : Prop := ∃ pd g Z, e = .returned (.tuple #[.pointer (some ⟨pd, 0, none⟩), .pointer (some ⟨Z.g, 0, none⟩), .pointer (some ⟨g, 0, none⟩)]) ∧ Tx w w' g Z (fT 2000) c
set_option maxHeartbeats 4000000 in
set_option maxRecDepth 100000 in
theorem fresh14_any (c : Int → List UInt8) (w : World) (hb : BitsOk w) : Calls Tryz.prog 28 #[] w (Fresh14 c w) := by
  have HB := Lib.hid hb
  have hpos := hb.pos
  clear hb
  go_enter Tryz.func28, Tryz.ntmps28
  go_wp2_with fail
  refine (dnew_any 2000 w (by omega) (by omega)).mono ?_
  rintro e w1 ⟨h, rfl, hd, hnew, hb1⟩
  have HD : Hid (Dp w w1 h (Dsk.new 2000)) := ⟨hd, hnew, hb1⟩
  clear hd hnew hb1
  have HK := Lib.hid (fP_pr 2000 (by omega) (by omega) c)
  go_wp2_with fail
  refine (px_open HD.out HK.out.1 (by omega) rfl).mono ?_
  rintro e w2 ⟨Z, rfl, hx, hz, -⟩
  have HX := Lib.hid hx
  have hz0 : ¬ Z.has 0 := hx.z0 hpos
  have HB2 := Lib.hid (HB.out.later hx.below)
  clear hx hz
  go_wp2_with fail
  refine (topen_any Z (fP 2000) c w2 HX.out.pg HK.out.2 HB2.out hz0).mono ?_
  rintro e w3 ⟨hs, hp, _, hres⟩
  rw [opP_fP] at hp hres
  have hck : chkT ((fT 2000).pg c) (fT 2000).pages.length = true := chk_of_tree (Q := ⟨1, 1, 480⟩) ⟨Nat.le_refl _, Nat.le_refl _⟩ (fT_tree _ _ c)
  rcases hres with ⟨_, g, hg, rfl, hT⟩ | ⟨hno, _⟩
  · have HT : Hid (Tx w w3 g Z (fT 2000) c) := ⟨hT, HX.out.new, Nat.le_trans HX.out.below.size hg, Turn.below HX.out.below hs.turn HX.out.below.size HX.out.new⟩
    clear hs hp hT hck hg
    go_wp2_with fail
    go_ret3
    exact ⟨h.g, g, Z, rfl, HT.out⟩
  · rw [hck] at hno
    cases hno
end Go.Proofs.YthbhkdhljlganaaGreatDoor

namespace Go.Proofs.YthbhkdhljlganaaGreatDoor
open Go Go.RowKit
set_option linter.unusedVariables false

set_option maxHeartbeats 1000000 in
set_option maxRecDepth 100000 in
theorem same14_any (S S' : Nat → Prop) (va vb : Value) (us vs : List Cel) (w : World) (ha : Cs S w va us) (hb : Cs S' w vb vs) :
    Calls Tryz.prog 15 #[va, vb] w fun e w' => e = .returned (.bool (decide (us = vs))) ∧ Below w.heap.size w w' := by
  obtain ⟨A, c, rfl, hlc, hcm, hA0, hA⟩ := ha.at
  obtain ⟨B, d, rfl, hld, hdm, hB0, hB⟩ := hb.at
  have HA := Lib.hid hA
  have HB := Lib.hid hB
  have hm : us.length ≤ 9223372036854775807 := by unfold maxLen at hcm; omega
  clear hA hB ha hb
  by_cases hlen : us.length = vs.length
  · have HL := Lib.hid hlen
    have hlen1 : us.length ≤ vs.length := by omega
    have hlen2 : ((us.length : Int) != (vs.length : Int)) = false := by rw [hlen]; simp
    clear hlen
    go_enter Tryz.func15, Tryz.ntmps15
    go_wp2_with fail
    go_loopw [5] (fun iv wr => ∃ i : Nat, iv = .int .i64 (i : Int) ∧ i ≤ us.length ∧ Hid (us.take i = vs.take i) ∧ ∃ n, wr = w.drewN n) (fun iv _ => us.length - (intOf iv).toNat)
    case atStart => exact ⟨0, rfl, by omega, by simp [Hid], 0, rfl⟩
    case round =>
      obtain ⟨i, rfl, hi, ht, n, rfl⟩ := hrel
      by_cases hil : i < us.length
      · obtain ⟨b, o, rfl, _, hca⟩ := HA.out (by omega)
        obtain ⟨b', o', rfl, _, hcb⟩ := HB.out (by omega)
        have hvl : i < vs.length := by omega
        have c0 := (hca i hil).1
        have c1 := (hca i hil).2
        have d0 := (hcb i hvl).1
        have d1 := (hcb i hvl).2
        have HS : Hid (us[i] = vs[i] → us.take (i + 1) = vs.take (i + 1)) := fun h => by rw [List.take_succ_eq_append_getElem hil, List.take_succ_eq_append_getElem hvl, h, ht.out]
        have HN : Hid (us[i] ≠ vs[i] → decide (us = vs) = false) := fun h => decide_eq_false (fun e => h (by subst e; rfl))
        clear hca hcb
        generalize us[i] = x at *
        generalize vs[i] = y at *
        obtain ⟨q, t⟩ := x
        obtain ⟨q', t'⟩ := y
        simp only at c0 c1 d0 d1
        by_cases hxy : q = q' ∧ t = t'
        · obtain ⟨rfl, rfl⟩ := hxy
          have HE := Lib.hid (HS.out rfl)
          go_wp2_with fail
          go_quiet (fail)
          go_wp2_with fail
          go_roundw
          case rel => exact ⟨i + 1, by go_num, by omega, HE, _, rfl⟩
          case measure => simp [intOf]; omega
        · have HE := Lib.hid (HN.out (fun e => hxy (by injection e with a b; exact ⟨a, b⟩)))
          by_cases hq : q = q'
          · subst hq
            have ht' : ¬ t = t' := fun e => hxy ⟨rfl, e⟩
            go_wp2_with fail
            go_quiet (fail)
            go_wp2_with fail
            go_ret
            exact ⟨by rw [HE.out]; rfl, below_drewN (below_drewN (Below.refl _ _) _) _⟩
          · go_wp2_with fail
            go_quiet (fail)
            go_wp2_with fail
            go_ret
            exact ⟨by rw [HE.out]; rfl, below_drewN (below_drewN (Below.refl _ _) _) _⟩
      · obtain rfl : i = us.length := by omega
        have HE : Hid (decide (us = vs) = true) := by
          have := ht.out
          rw [List.take_length, HL.out, List.take_length] at this
          simp [Hid, this]
        go_wp2_with fail
        go_ret
        exact ⟨by rw [HE.out]; rfl, below_drewN (Below.refl _ _) _⟩
  · have HE : Hid (decide (us = vs) = false) := decide_eq_false (fun e => hlen (by rw [e]))
    have t1 : ((us.length : Int) != (vs.length : Int)) = true := by rw [bne_iff_ne]; omega
    clear hlen
    go_enter Tryz.func15, Tryz.ntmps15
    go_wp2_with fail
    go_ret
    exact ⟨by rw [HE.out]; rfl, Below.refl _ _⟩
end Go.Proofs.YthbhkdhljlganaaGreatDoor

namespace Go.Proofs.YthbhkdhljlganaaGreatDoor
open Go
set_option linter.unusedVariables false

/-- A tree of one leaf. -/
structure Lone (P : Pgr) (c : Int → List UInt8) (cs : List Cel) : Prop where
  rep : RepP P c [(0, ((true, 0, cs) : Pag))]
  ok : POk (true, 0, cs)
theorem Lone.new (n : Nat) (c : Int → List UInt8) : Lone (fT n) c [] := ⟨(fP_rep n c).new (i := 0) (x := (true, 0, [])) (by simp) (by omega) leaf0_ok, leaf0_ok⟩
variable {P : Pgr} {c : Int → List UInt8} {cs : List Cel}
theorem Lone.pgD (h : Lone P c cs) : P.pgD c 0 = (true, 0, cs) := h.rep.pgD (i := 0) (by simp)
theorem Lone.len (h : Lone P c cs) : P.pages.length = 1 := h.rep.len
theorem Lone.way (h : Lone P c cs) (k : List UInt8) : wayF (P.pgD c) k 1 0 = some ([] ++ [⟨0, 0, (true, 0, cs)⟩]) := by
  rw [wayF, h.pgD]
  simp
theorem Lone.chain (h : Lone P c cs) : chainF (P.pgD c) 1 (true, 0, cs) = some cs := by
  rw [chainF]
  simp
theorem Lone.wp (h : Lone P c cs) {cs' : List Cel} (ok : POk (true, 0, cs')) : Lone (P.wp 0 (true, 0, cs')) c cs' := ⟨h.rep.wp ok, ok⟩
theorem Lone.put (h : Lone P c cs) {x : Cel} (ok : POk (true, 0, putC cs x)) (h1 : x.1.length ≤ 240) (h2 : x.1.length + x.2.length ≤ 480) :
    putT P ([] ++ [⟨0, 0, (true, 0, cs)⟩]) x = (P.wp 0 (true, 0, putC cs x), 0) := by
  have hs := ok.parts.2.2
  have hl := h.len
  unfold putT
  rw [if_neg (by omega)]
  show (if 480 < x.1.length + x.2.length then (P, 100) else if 90 < P.pages.length + (1 + 2) then (P, 141) else (upP P [] 0 (putPg (true, 0, cs) x), 0)) = _
  rw [if_neg (by omega), if_neg (by omega)]
  unfold upP
  show ((if szP (true, 0, putC cs x) ≤ 2048 then P.wp 0 (true, 0, putC cs x) else _), 0) = _
  rw [if_pos hs]
theorem Lone.del (h : Lone P c cs) {k : List UInt8} (hk : isK cs k = true) : deleteT P c ([] ++ [⟨0, 0, (true, 0, cs)⟩]) k = (P.wp 0 (true, 0, delC cs k), 0) := by
  show (if isK cs k then (downP c P [] 0 (delPg (true, 0, cs) k), 0) else (P, 140)) = _
  rw [if_pos hk]
  rfl
theorem pok_few {cs : List Cel} (hc : chk none cs = 0) (hf : cs.length ≤ 4) (hl : ∀ x ∈ cs, x.1.length ≤ 1 ∧ x.2.length ≤ 1) : POk (true, 0, cs) := by
  refine POk.mk' (Nat.zero_le _) hc ?_
  have := pgSz_few (next := ((0 : Nat) : Int)) (cs := cs) (by omega) (by omega)
  have hx : celsN cs ≤ 6 * cs.length := celsN_le' fun x hx => by
    have := hl x hx
    unfold celB textB
    have h1 := varB_one (x := x.1.length) (by omega)
    have h2 := varB_one (x := x.2.length) (by omega)
    simp only [List.length_append]
    omega
  show pgSz ((0 : Nat) : Int) cs ≤ 2048
  omega
theorem Lone.tree (h : Lone P c cs) (ha : Asc cs) (hk : ∀ x ∈ cs, x.1.length ≤ 480) : Tree ⟨1, 1, 480⟩ P c 0 (show Ct 0 from (0, cs)) := by
  refine ⟨h.rep, ⟨ha, fun x hx => ?_⟩, fun q hq => ?_, ⟨rfl, trivial⟩, trivial, ?_⟩
  · refine ⟨?_, fun h hh => by cases hh⟩
    rw [← less_iff]
    show ¬ Op.bytesLess x.1 [] = true
    cases x.1 <;> simp [Op.bytesLess]
  · obtain rfl := List.mem_singleton.1 (show q ∈ [(0, ((true, 0, cs) : Pag))] from hq)
    exact ⟨h.ok, by unfold KOk; simpa using hk⟩
  · unfold rootN Ct.n; simp
theorem Lone.chk (h : Lone P c cs) (ha : Asc cs) (hk : ∀ x ∈ cs, x.1.length ≤ 480) : chkT (P.pg c) P.pages.length = true := chk_of_tree (Q := ⟨1, 1, 480⟩) ⟨Nat.le_refl _, Nat.le_refl _⟩ (h.tree ha hk)
end Go.Proofs.YthbhkdhljlganaaGreatDoor

namespace Go.Proofs.YthbhkdhljlganaaGreatDoor
open Go Go.RowKit
set_option linter.unusedVariables false

section
variable {w0 w : World} {g : Nat} {Z : Pz} {P : Pgr} {c : Int → List UInt8} {cs : List Cel}
theorem lput (ht : Tx w0 w g Z P c) (h : Lone P c cs) (k v : List UInt8) (h1 : k.length ≤ 240) (h2 : k.length + v.length ≤ 480) (ok : POk (true, 0, putC cs (k, v))) (hky : ∀ x ∈ cs, x.1.length ≤ 470) :
    Calls Tryz.prog 29 #[.pointer (some ⟨g, 0, none⟩), .agg #[.string (st k), .string (st v)]] w fun e w' => e = .returned (.int .i64 0) ∧ Tx w0 w' g Z (P.wp 0 (true, 0, putC cs (k, v))) c := by
  refine (tput_any g Z P c k v 1 _ w ht.T (by omega) (by omega) (h.way k) (by simp) (by simpa using hky)).mono ?_
  rintro e w' ⟨rfl, hd⟩
  rw [h.put ok h1 h2] at hd ⊢
  exact ⟨rfl, ht.done hd⟩
theorem ldel (ht : Tx w0 w g Z P c) (h : Lone P c cs) (k : List UInt8) (hk : isK cs k = true) (ok : POk (true, 0, delC cs k)) :
    Calls Tryz.prog 30 #[.pointer (some ⟨g, 0, none⟩), .string (st k)] w fun e w' => e = .returned (.int .i64 0) ∧ Tx w0 w' g Z (P.wp 0 (true, 0, delC cs k)) c := by
  refine (tdelete_of g Z P c k 1 [] ⟨0, 0, (true, 0, cs)⟩ w ht.T (h.way k) (by simp) (fun _ => tdown_leaf g Z P c 0 (delC cs k) (mid_pok ok) (by omega))).mono ?_
  rintro e w' ⟨rfl, hd⟩
  rw [h.del hk] at hd ⊢
  exact ⟨rfl, ht.done hd⟩
theorem lseek (ht : Tx w0 w g Z P c) (h : Lone P c cs) (k : List UInt8) :
    Calls Tryz.prog 31 #[.pointer (some ⟨g, 0, none⟩), .string (st k)] w fun e w' => e = .returned (.tuple #[.agg #[.string (st (headV (cs.drop (findK cs k))).1.1), .string (st (headV (cs.drop (findK cs k))).1.2)], .bool (headV (cs.drop (findK cs k))).2]) ∧ Tx w0 w' g Z P c ∧ Below w.heap.size w w' := by
  refine (tseek_any g Z P c k 1 1 [] ⟨0, 0, (true, 0, cs)⟩ cs w ht.T (h.way k) (by simp) h.chain).mono ?_
  rintro e w' ⟨rfl, hb⟩
  exact ⟨rfl, ht.later hb, hb⟩
theorem lbefore (ht : Tx w0 w g Z P c) (h : Lone P c cs) (k : List UInt8) (h0 : 0 < findK cs k) :
    Calls Tryz.prog 32 #[.pointer (some ⟨g, 0, none⟩), .string (st k)] w fun e w' => e = .returned (.tuple #[.agg #[.string (st (cellAt cs (findK cs k - 1)).1), .string (st (cellAt cs (findK cs k - 1)).2)], .bool true]) ∧ Tx w0 w' g Z P c ∧ Below w.heap.size w w' := by
  refine (tbefore_leaf g Z P c k 1 [] ⟨0, 0, (true, 0, cs)⟩ w ht.T (h.way k) (by simp) h0).mono ?_
  rintro e w' ⟨rfl, hb⟩
  exact ⟨rfl, ht.later hb, hb⟩
theorem ldepth (ht : Tx w0 w g Z P c) (h : Lone P c cs) :
    Calls Tryz.prog 12 #[.pointer (some ⟨g, 0, none⟩)] w fun e w' => e = .returned (.int .i64 1) ∧ Tx w0 w' g Z P c ∧ Below w.heap.size w w' := by
  refine (tdepth_any g Z P c 1 _ w ht.T (h.way []) (by simp)).mono ?_
  rintro e w' ⟨rfl, hb⟩
  exact ⟨rfl, ht.later hb, hb⟩
theorem lcheck (ht : Tx w0 w g Z P c) (h : Lone P c cs) (ha : Asc cs) (hk : ∀ x ∈ cs, x.1.length ≤ 480) :
    Calls Tryz.prog 33 #[.pointer (some ⟨g, 0, none⟩)] w fun e w' => e = .returned (.bool true) ∧ Tx w0 w' g Z P c ∧ Below w.heap.size w w' := by
  have hc := tcheck_any g Z P c w ht.T
  rw [h.chk ha hk] at hc
  refine hc.mono ?_
  rintro e w' ⟨rfl, hb⟩
  exact ⟨rfl, ht.later hb, hb⟩
theorem lrange (ht : Tx w0 w g Z P c) (h : Lone P c cs) (hl : cs.length ≤ 1000000) (h0 : findK cs [] = 0) :
    Calls Tryz.prog 16 #[.pointer (some ⟨g, 0, none⟩), .agg (rgC [] [] true false (-1))] w fun e w' => ∃ A c1, e = .returned (.slice A cs.length c1) ∧ Co w' w.heap.size (.slice A cs.length c1) cs ∧ Tx w0 w' g Z P c ∧ Below w.heap.size w w' := by
  refine (trange_fwd g Z P c [] [] true (-1) 1 1 [] ⟨0, 0, (true, 0, cs)⟩ cs w ht.T (h.way []) (by simp) h.chain hl).mono ?_
  have e0 : rgTold (cs.drop (findK cs [])) [] true (-1) = cs := by
    rw [h0]
    exact rgTold_all (by simp) (.inl (by omega))
  rintro e w' ⟨A, c1, rfl, ho, hb⟩
  simp only [e0] at ho ⊢
  exact ⟨A, c1, rfl, ho, ht.later hb, hb⟩
end
end Go.Proofs.YthbhkdhljlganaaGreatDoor

namespace Go.Proofs.YthbhkdhljlganaaGreatDoor
open Go Go.RowKit
set_option linter.unusedVariables false

def a14 : Cel := ([97], [49])
def b14 : Cel := ([98], [50])
def c14 : Cel := ([99], [51])
theorem is14 : isK [a14, b14, c14] [98] = true := by decide
theorem find14n : findK [a14, c14] [] = 0 := by decide
theorem ok14 {cs : List Cel} (h : ∀ x ∈ cs, x = a14 ∨ x = b14 ∨ x = c14) (hc : chk none cs = 0) (hl : cs.length ≤ 4) : POk (true, 0, cs) := by
  refine pok_few hc hl fun x hx => ?_
  rcases h x hx with rfl | rfl | rfl <;> decide
theorem ok14a : POk (true, 0, [b14]) := ok14 (by simp) (by decide) (by decide)
theorem ok14b : POk (true, 0, [a14, b14]) := ok14 (by simp) (by decide) (by decide)
theorem ok14c : POk (true, 0, [a14, b14, c14]) := ok14 (by simp) (by decide) (by decide)
theorem ok14d : POk (true, 0, [a14, c14]) := ok14 (by simp) (by decide) (by decide)
theorem asc14 : Asc [a14, c14] := by simp [Asc, a14, c14, Lt, cmpB]
theorem rngTy14 : StructTy Tryz.prog 49 5 := ⟨⟨_, Tryz.underlying49⟩, by kernel_rfl⟩
theorem all14_any (w : World) : Calls Tryz.prog 17 #[] w (fun e w' => e = .returned (.agg (rgC [] [] true false (-1))) ∧ Below w.heap.size w w') := by
  go_enter Tryz.func17, Tryz.ntmps17
  go_wp2_with fail
  refine bodyPost_ret (results_cell1 rfl _ _ w.heap.size rfl (Blk.new w 49 (rgC [] [] true false (-1))) rngTy14) rfl ⟨rfl, (Below.refl _ _).alloc (Nat.le_refl _) _⟩
set_option maxHeartbeats 8000000 in
set_option maxRecDepth 100000 in
theorem awake14_any (c : Int → List UInt8) (w : World) (hb : BitsOk w) : Calls Tryz.prog 6 #[] w (fun e w' => e = .returned (.bool true) ∧ Below w.heap.size w w') := by
  have HB := Lib.hid hb
  clear hb
  go_enter Tryz.func6, Tryz.ntmps6
  go_wp2_with fail
  refine (fresh14_any c w HB.out).mono ?_
  rintro e w1 ⟨pd, g, Z, rfl, ht⟩
  have HT := Lib.hid ht
  have h0 := Lone.new 2000 c
  have l0 := Lib.hid h0
  have h1 : Lone _ c [b14] := h0.wp ok14a
  have h2 : Lone _ c [a14, b14] := h1.wp ok14b
  have h3 : Lone _ c [a14, b14, c14] := h2.wp ok14c
  have h4 : Lone _ c [a14, c14] := h3.wp ok14d
  clear ht
  go_wp2_with fail
  refine (lput HT.out h0 [98] [50] (by decide) (by decide) ok14a (by simp)).mono ?_
  rintro e w2 ⟨rfl, ht2⟩
  have HT2 := Lib.hid ht2
  clear ht2
  go_wp2_with fail
  refine (lput HT2.out h1 [97] [49] (by decide) (by decide) ok14b (by simp [b14])).mono ?_
  rintro e w3 ⟨rfl, ht3⟩
  have HT3 := Lib.hid ht3
  clear ht3
  go_wp2_with fail
  refine (lput HT3.out h2 [99] [51] (by decide) (by decide) ok14c (by simp [a14, b14])).mono ?_
  rintro e w4 ⟨rfl, ht4⟩
  have HT4 := Lib.hid ht4
  clear ht4
  go_wp2_with fail
  refine (ldel HT4.out h3 [98] is14 ok14d).mono ?_
  rintro e w5 ⟨rfl, ht5⟩
  have HT5 := Lib.hid ht5
  clear ht5
  go_wp2_with fail
  have hs := lseek HT5.out h4 [98]
  rw [show headV (([a14, c14] : List Cel).drop (findK [a14, c14] [98])) = (([99], [51]), true) from by decide] at hs
  refine hs.mono ?_
  clear hs
  rintro e w6 ⟨rfl, ht6, _⟩
  have HT6 := Lib.hid ht6
  clear ht6
  go_wp2_with fail
  have q6 := (Below.refl w6.heap.size w6).alloc (Nat.le_refl _) (.cells #[.string (st [99]), .string (st [51])] 81)
  have hbf := lbefore (HT6.out.later q6) h4 [98] (by decide)
  rw [show cellAt ([a14, c14] : List Cel) (findK [a14, c14] [98] - 1) = ([97], [49]) from by decide] at hbf
  have B6 := Lib.hid (Blk.new w6 81 #[.string (st [99]), .string (st [51])])
  clear q6
  refine hbf.mono ?_
  clear hbf
  rintro e w7 ⟨rfl, ht7, hb7⟩
  have HT7 := Lib.hid ht7
  have B7 := Lib.hid (B6.out.later hb7)
  clear ht7 hb7
  go_wp2_with fail
  have q7 := (Below.refl w7.heap.size w7).alloc (Nat.le_refl _) (.cells #[.string (st [97]), .string (st [49])] 81)
  have C7 := Lib.hid (Blk.new w7 81 #[.string (st [97]), .string (st [49])])
  have D7 := Lib.hid (B7.out.later q7)
  have HU := Lib.hid (HT7.out.later q7)
  generalize hW : w7.alloc (.cells #[.string (st [97]), .string (st [49])] 81) = W at *
  clear hW q7
  refine (all14_any W).mono ?_
  rintro e w8 ⟨rfl, hb8⟩
  go_wp2_with fail
  refine (lrange (HU.out.later hb8) h4 (by decide) find14n).mono ?_
  rintro e w9 ⟨A, c1, rfl, ho, ht9, hb9⟩
  have HT9 := Lib.hid ht9
  clear ht9
  go_wp2_with fail
  have q9 := (Below.refl w9.heap.size w9).alloc (Nat.le_refl _) (.cells #[.string (st [97]), .string (st [49]), .string (st [99]), .string (st [51])] 81)
  refine (same14_any _ _ _ _ [a14, c14] [a14, c14] _ (Sl.below ho.cs q9 (fun b h => h.2)) (run_two w9 a14 c14)).mono ?_
  rintro e w10 ⟨rfl, hb10⟩
  have f10 := (((D7.out.later hb8).later hb9).later q9).later hb10
  have g10 := (((C7.out.later hb8).later hb9).later q9).later hb10
  have HT10 := Lib.hid ((HT9.out.later q9).later hb10)
  have p0 := f10.cell 0
  have p1 := f10.cell 1
  have p2 := g10.cell 0
  have p3 := g10.cell 1
  clear f10 g10 q9
  go_wp2_with fail
  refine (ldepth HT10.out h4).mono ?_
  rintro e w11 ⟨rfl, ht11, hb11⟩
  have HT11 := Lib.hid ht11
  clear ht11
  go_wp2_with fail
  refine (lcheck HT11.out h4 asc14 (by simp [a14, c14])).mono ?_
  rintro e w12 ⟨rfl, ht12, hb12⟩
  have HB12 := Lib.hid ht12.below
  go_wp2_with fail
  go_ret
  exact ⟨rfl, HB12.out⟩
end Go.Proofs.YthbhkdhljlganaaGreatDoor

namespace Go.Proofs.YthbhkdhljlganaaGreatDoor
open Go
set_option linter.unusedVariables false

/-- A page and all below stand where they should. -/
structure ShIn (pf : PF) (j : Nat) (t : Ct j) (i : Nat) : Prop where
  pgs : ∀ q ∈ (i, Ct.page j t) :: Ct.subs j t, pf (q.1 : Int) = some q.2 ∧ POk q.2
  wf : ∃ lo hi, Wf j lo hi t
  fl : FlIn ⟨1, 1, 0⟩ j t
  n1 : 0 < j → 1 ≤ Ct.n j t
  zero : ∀ q ∈ Ct.subs j t, 0 < q.1 ∧ q.1 < 90
  i9 : i < 90
theorem WfL_at {j : Nat} {W : Key → Option Key → Ct j → Prop} {ks : List (Kid j)} {hi : Option Key} (h : WfL W ks hi) {a : Nat} (ha : a < ks.length) : W ks[a].1 (nextK (ks.drop (a + 1)) hi) ks[a].2.2 := by
  have e : ks = ks.take a ++ ks[a] :: ks.drop (a + 1) := by simp
  have h2 : WfL W (ks.take a ++ ks[a] :: ks.drop (a + 1)) hi := by rw [← e]; exact h
  rw [WfL_app] at h2
  exact h2.2.1
theorem ShIn.kid {pf : PF} {j i : Nat} {ks : List (Kid j)} (h : ShIn pf (j + 1) ks i) {a : Nat} (ha : a < ks.length) : ShIn pf j ks[a].2.2 ks[a].2.1 := by
  have hin : ∀ q ∈ (ks[a].2.1, Ct.page j ks[a].2.2) :: Ct.subs j ks[a].2.2, q ∈ subsL ks := fun q hq => List.mem_flatMap.2 ⟨ks[a], List.getElem_mem ha, hq⟩
  obtain ⟨lo, hi, _, hw⟩ := h.wf
  have hf := (Fl_iff _ _ _).1 (h.fl ks[a] (List.getElem_mem ha))
  refine ⟨fun q hq => h.pgs q (List.mem_cons_of_mem _ (hin q hq)), ⟨_, _, WfL_at hw ha⟩, hf.2, fun hj => ?_, fun q hq => h.zero q (hin q (List.mem_cons_of_mem _ hq)), (h.zero _ (hin _ (List.mem_cons_self ..))).2⟩
  have := hf.1
  cases j with
  | zero => exact absurd hj (Nat.lt_irrefl _)
  | succ j => exact this
theorem ShIn.kid0 {pf : PF} {j i : Nat} {ks : List (Kid j)} (h : ShIn pf (j + 1) ks i) {a : Nat} (ha : a < ks.length) : 0 < ks[a].2.1 ∧ ks[a].2.1 < 90 :=
  h.zero _ (List.mem_flatMap.2 ⟨ks[a], List.getElem_mem ha, List.mem_cons_self ..⟩)
/-- The cells below one of the pages that a page leads to lie between its keys. -/
theorem ShIn.keys {pf : PF} {j i : Nat} {ks : List (Kid j)} (h : ShIn pf (j + 1) ks i) {a : Nat} (ha : a < ks.length) :
    ∀ x ∈ Ct.cells j ks[a].2.2, Op.bytesLess x.1 ks[a].1 = false ∧ ∀ hb : a + 1 < ks.length, Op.bytesLess x.1 ks[a + 1].1 = true := by
  intro x hx
  obtain ⟨lo, hi, _, hw⟩ := h.wf
  have hb := (Wf.all _ _ _ _ (WfL_at hw ha)).2 x hx
  refine ⟨less_not.2 hb.1, fun h1 => less_iff.2 (hb.2 _ ?_)⟩
  rw [List.drop_eq_getElem_cons h1]
  rfl
theorem pok_len {x : Pag} (h : POk x) : x.2.2.length ≤ 1024 := by
  have h1 := sz_len (x := x)
  have h2 := h.parts.2.2
  omega
theorem cells_bd : ∀ (j i : Nat) (t : Ct j), (∀ q ∈ (i, Ct.page j t) :: Ct.subs j t, POk q.2) → (Ct.cells j t).length ≤ 1024 * (1 + (Ct.subs j t).length)
  | 0, i, t, h => by
    have h1 : t.2.length ≤ 1024 := pok_len (x := Ct.page 0 t) (h _ (List.mem_cons_self ..))
    show t.2.length ≤ 1024 * (1 + 0)
    omega
  | j + 1, i, ks, h => by
    have key : ∀ l : List (Kid j), (∀ q ∈ subsL l, POk q.2) → (cellsL l).length ≤ 1024 * (subsL l).length := by
      intro l
      induction l with
      | nil => intro _; simp [cellsL]
      | cons k l ih =>
        intro hl
        have hs := subsL_cons l k
        rw [hs] at hl ⊢
        rw [cellsL_cons]
        have h1 := cells_bd j k.2.1 k.2.2 fun q hq => hl q (List.mem_append_left _ hq)
        have h2 := ih fun q hq => hl q (List.mem_append_right _ hq)
        simp only [List.length_append, List.length_cons] at h1 h2 ⊢
        omega
    have h1 := key ks fun q hq => h q (List.mem_cons_of_mem _ hq)
    show (cellsL (j := j) ks).length ≤ 1024 * (1 + (subsL (j := j) ks).length)
    omega
theorem ShIn.bd {pf : PF} {j i : Nat} {t : Ct j} (h : ShIn pf j t i) : (Ct.cells j t).length ≤ 1024 * (1 + (Ct.subs j t).length) := cells_bd j i t fun q hq => (h.pgs q hq).2
section
variable {j : Nat} {ks : List (Kid j)} {a : Nat}
theorem cellsL_take (ha : a < ks.length) : cellsL (ks.take (a + 1)) = cellsL (ks.take a) ++ Ct.cells j ks[a].2.2 := by
  rw [List.take_succ_eq_append_getElem ha, cellsL_app, cellsL_cons]
  simp [cellsL]
theorem subsL_take (ha : a < ks.length) : (subsL (ks.take (a + 1))).length = (subsL (ks.take a)).length + (1 + (Ct.subs j ks[a].2.2).length) := by
  rw [List.take_succ_eq_append_getElem ha, subsL_app, subsL_cons, List.length_append]
  simp [subsL]
  omega
theorem subsL_le : (subsL (ks.take a)).length ≤ (subsL ks).length := by
  have e := congrArg (fun l => (subsL l).length) (List.take_append_drop a ks)
  simp only [subsL_app, List.length_append] at e
  omega
end
theorem ShIn.bdT {pf : PF} {j i : Nat} {ks : List (Kid j)} (h : ShIn pf (j + 1) ks i) : ∀ a, a ≤ ks.length → (cellsL (ks.take a)).length ≤ 1024 * (subsL (ks.take a)).length
  | 0, _ => by simp [cellsL]
  | a + 1, ha => by
    have h1 := h.bdT a (by omega)
    have h2 := (h.kid (a := a) ha).bd
    rw [cellsL_take ha, subsL_take ha, List.length_append]
    omega
end Go.Proofs.YthbhkdhljlganaaGreatDoor

namespace Go.Proofs.YthbhkdhljlganaaGreatDoor
open Go
set_option linter.unusedVariables false

/-- A page that came in. -/
structure PgA where
  leaf : Bool
  next : Int
  v : Value
  cs : List Cel
structure PgA.Ok (w : World) (x : PgA) : Prop where
  next : -9223372036854775808 ≤ x.next ∧ x.next ≤ 9223372036854775807
  wd : Wd x.cs
  cs : Cs (fun b => b < w.heap.size) w x.v x.cs
/-- v reads as these pages. -/
def PgAs (w : World) (v : Value) (xs : List PgA) : Prop := ∃ A c, v = .slice A xs.length c ∧ xs.length ≤ 9223372036854775807 ∧ (∀ x ∈ xs, x.Ok w) ∧
  (0 < xs.length → ∃ b o, A = some ⟨b, o, none⟩ ∧ b < w.heap.size ∧ ∀ i (h : i < xs.length), w.cell? ⟨b, o + i * 3, none⟩ = some (.bool xs[i].leaf) ∧ w.cell? ⟨b, o + i * 3 + 1, none⟩ = some (.int .i64 xs[i].next) ∧ w.cell? ⟨b, o + i * 3 + 2, none⟩ = some xs[i].v)
/-- What is there can be read as pages. -/
structure Hp (P : Pgr) (c : Int → List UInt8) : Prop where
  has : ∀ i, P.has i = (P.pg c i).isSome
  pf : ∀ i x, P.pg c i = some x → POk x ∧ 0 ≤ i ∧ i < 90
theorem Hp.new (n : Nat) (c : Int → List UInt8) : Hp (fP n) c := by
  have hp : ∀ i, (fP n).pg c i = none := fun i => by unfold Pgr.pg Pgr.page; rw [fP_has]; rfl
  exact ⟨fun i => by rw [fP_has, hp]; rfl, fun i x h => by rw [hp] at h; cases h⟩
theorem Hp.wp {P : Pgr} {c : Int → List UInt8} (h : Hp P c) {x : Pag} (ok : POk x) {i : Nat} (hi : i < 90) : Hp (P.wp (i : Int) x) c := by
  have hb := (POk.bytes ok).2
  have e1 := put_has P (i : Int) (pgB x)
  have e2 := put_pg P c (i : Int) hb
  rw [wp_put ok hi]
  refine ⟨fun z => ?_, fun z y hz => ?_⟩
  · rw [e1, e2]
    unfold PF.put
    by_cases hzi : z = (i : Int)
    · rw [if_pos hzi, if_pos hzi]; rfl
    · rw [if_neg hzi, if_neg hzi]; exact h.has z
  · rw [e2] at hz
    unfold PF.put at hz
    by_cases hzi : z = (i : Int)
    · rw [if_pos hzi] at hz
      cases hz
      exact ⟨ok, by omega, by omega⟩
    · rw [if_neg hzi] at hz
      exact h.pf z y hz
theorem Hp.op {P : Pgr} {c : Int → List UInt8} (h : Hp P c) : Hp (opP P) c := by
  unfold opP
  split
  · exact h.wp (i := 0) leaf0_ok (by omega)
  · exact h
theorem pok_of_chk {leaf : Bool} {next : Int} {cs : List Cel} (h : pgChk next cs = 0) : ∃ n : Nat, next = (n : Int) ∧ POk (leaf, n, cs) := by
  have h1 := pgChk_ok h
  refine ⟨next.toNat, by omega, ?_⟩
  unfold POk
  simp only
  rw [show ((next.toNat : Nat) : Int) = next by omega]
  exact h
theorem pgB_of {leaf : Bool} {n : Nat} {cs : List Cel} (h : pgChk (n : Int) cs = 0) : pgB (leaf, n, cs) = sealB (pgF leaf (n : Int) cs) := by
  unfold pgB
  exact if_pos h
theorem findK_nil0 (cs : List Cel) : findK cs [] = 0 := by
  unfold findK
  cases cs with
  | nil => rfl
  | cons c cs =>
    rw [List.takeWhile_cons, if_neg]
    · rfl
    · cases c.1 <;> simp [Op.bytesLess]
/-- All cells, from the first leaf on. -/
theorem Tree.all {Q : Prm} {P : Pgr} {c : Int → List UInt8} {D : Nat} {t : Ct D} (T : Tree Q P c D t) :
    ∃ l s, wayF (P.pgD c) [] (D + 1) 0 = some (l ++ [s]) ∧ l.length = D ∧ chainF (P.pgD c) 91 s.pg = some (Ct.cells D t) ∧ findK s.pg.2.2 [] = 0 := by
  obtain ⟨w, n, cs, h, cx, h1, h2, h3, a⟩ := T.way []
  have hw : w = (cx.steps h).reverse ++ [⟨(h : Int), 0, (true, n, cs)⟩] := by
    have := congrArg List.reverse h3
    rw [List.reverse_reverse, List.reverse_cons] at this
    exact this
  have hl : (cx.steps h).reverse.length = D := by
    rw [hw, List.length_append] at h2
    simp at h2 ⊢
    omega
  obtain ⟨e1, e2, e3⟩ := a.cells
  have hcl : cx.cl = [] := by
    cases hc : cx.cl with
    | nil => rfl
    | cons x r =>
      exfalso
      have := e2 x (by rw [hc]; simp)
      rw [← less_iff] at this
      cases hx : x.1 <;> rw [hx] at this <;> simp [Op.bytesLess] at this
  refine ⟨_, _, by rw [h1, hw], hl, ?_, findK_nil0 cs⟩
  rw [T.chain a, e1, hcl, List.nil_append]
end Go.Proofs.YthbhkdhljlganaaGreatDoor

namespace Go.Proofs.YthbhkdhljlganaaGreatDoor
open Go Go.RowKit
set_option linter.unusedVariables false

end Go.Proofs.YthbhkdhljlganaaGreatDoor

namespace Go.Proofs.YthbhkdhljlganaaGreatDoor
open Go Go.RowKit
set_option linter.unusedVariables false


def refVal : Except Nat (Nat × Nat) → Ending
  | .ok (v, n) => .returned (.tuple #[.int .u64 (v : Int), .int .i64 (n : Int), .int .i64 0])
  | .error e => .returned (.tuple #[.int .u64 0, .int .i64 0, .int .i64 (e : Int)])

set_option maxHeartbeats 1000000 in
set_option maxRecDepth 100000 in
theorem refGetVar_any (l : List UInt8) (w : World) (hl : l.length ≤ 1099511627776) :
    Calls Tryz.prog 48 #[.string (st l)] w fun e w' => e = refVal (getVarB l) ∧ w = w' := by
  go_enter Tryz.func48, Tryz.ntmps48
  go_wp2_with fail
  go_loop [5, 6, 7] (fun av pv iv => ∃ (i a p : Nat), iv = .int .i64 (i : Int) ∧ av = .int .u64 (a : Int) ∧ pv = .int .u64 (p : Int) ∧ i ≤ l.length ∧ i ≤ 9 ∧ Hid (a < 128 ^ i) ∧ Hid (p = 128 ^ i) ∧ p ≤ 9223372036854775808 ∧ a ≤ 9223372036854775808 ∧ Hid (getV i a (l.drop i) = getVarB l)) (fun _ _ iv => l.length - (intOf iv).toNat)
  case atStart => exact ⟨0, 0, 1, rfl, rfl, rfl, by omega, by omega, by simp [Hid], rfl, by omega, by omega, by simp [getVarB, Hid]⟩
  case round =>
    obtain ⟨i, a, p, rfl, rfl, rfl, hi, hi9, HA2, hp, hp2, ha2, hg⟩ := hrel
    by_cases hil : i < l.length
    · have HG := Lib.hid (getV_at hil hg.out)
      clear hg
      obtain ⟨x, hx⟩ : ∃ x, x = l[i].toNat := ⟨_, rfl⟩
      have hx256 : x < 256 := hx ▸ l[i].toNat_lt
      have HX := Lib.hid hx
      have hxi : (l[i].toNat : Int) = (x : Int) := by rw [hx]
      rw [← hx] at HG
      clear hx
      by_cases h1 : i = 9 ∧ 1 < x
      · have t1 : (i : Int) = 9 := by omega
        have t1' : ((i : Int) == 9) = true := by simp; omega
        have t2 : (1 : Int) < (x : Int) := by omega
        have hr : getVarB l = .error 12 := by
          have h := HG.out
          rw [if_pos (.inl h1)] at h
          exact h.symm
        have HR := Lib.hid hr
        clear h1 hr t1
        go_wp2_with fail
        go_ret3
        exact ⟨by rw [HR.out]; rfl, rfl⟩
      · by_cases h2 : 0 < i ∧ x = 0
        · have t1 : ((i : Int) == 9) = false ∨ ((i : Int) == 9) = true := by cases ((i : Int) == 9) <;> simp
          have t2 : ((x : Int) == 0) = true := by simp; omega
          have t3 : ¬ (1 : Int) < (x : Int) := by omega
          have t0 : (0 : Int) < (i : Int) := by omega
          have hr : getVarB l = .error 12 := by
            have h := HG.out
            rw [if_pos (.inr h2)] at h
            exact h.symm
          have HR := Lib.hid hr
          clear h1 h2 hr
          rcases t1 with t1 | t1
          all_goals
            go_wp2_with fail
            go_ret3
            exact ⟨by rw [HR.out]; rfl, rfl⟩
        · obtain ⟨t, ht⟩ : ∃ t, t = x % 128 * p := ⟨_, rfl⟩
          have htp : t = x % 128 * 128 ^ i := by rw [ht, hp.out]
          have hb : a + t < U64 ∧ (x < 128 ∨ a + t < 128 ^ (i + 1)) := by
            have hA := HA2.out
            by_cases h9 : i = 9
            · have hm : x % 128 ≤ 1 ∨ 128 ≤ x := by omega
              rcases hm with hm | hm
              · have h3 : x % 128 * 128 ^ i ≤ 1 * 128 ^ i := Nat.mul_le_mul_right _ hm
                subst h9
                unfold U64
                omega
              · omega
            · have h3 : x % 128 * 128 ^ i ≤ 127 * 128 ^ i := Nat.mul_le_mul_right _ (by omega)
              have h4 : (128 : Nat) ^ i ≤ 128 ^ 8 := Nat.pow_le_pow_right (by omega) (by omega)
              rw [Nat.pow_succ]
              unfold U64
              omega
          obtain ⟨hb1, hb2⟩ := hb
          have hbi : (a : Int) + (t : Int) ≤ 18446744073709551615 := by unfold U64 at hb1; omega
          have e0 : IntKind.u64.wrap ((x : Int) % 128 * (p : Int)) = (t : Int) := by
            have h6 : ((x : Int) % 128) = ((x % 128 : Nat) : Int) := by omega
            rw [h6, ht, Int.natCast_mul]
            exact wrap_u64 (by rw [← Int.natCast_mul, ← ht]; omega) (by rw [← Int.natCast_mul, ← ht]; omega)
          by_cases h3 : x < 128
          · have hr : getVarB l = .ok (a + t, i + 1) := by
              have h := HG.out
              rw [if_neg (by omega), if_pos h3] at h
              rw [← h, htp, show x % 128 = x from by omega]
            have HR := Lib.hid hr
            have t4 : (x : Int) < 128 := by omega
            clear hr ht htp hb1 hb2
            have hcase : ((i : Int) == 9) = true ∧ ¬ (1 : Int) < (x : Int) ∧ (0 : Int) < (i : Int) ∧ ((x : Int) == 0) = false ∨ ((i : Int) == 9) = false ∧ (0 : Int) < (i : Int) ∧ ((x : Int) == 0) = false ∨ ((i : Int) == 9) = false ∧ ¬ (0 : Int) < (i : Int) := by
              by_cases h9 : i = 9
              · exact .inl ⟨by simp; omega, by omega, by omega, by simp; omega⟩
              · by_cases h0 : 0 < i
                · exact .inr (.inl ⟨by simp; omega, by omega, by simp; omega⟩)
                · exact .inr (.inr ⟨by simp; omega, by omega⟩)
            clear h1 h2
            rcases hcase with ⟨t1, t2, t3, t5⟩ | ⟨t1, t2, t3⟩ | ⟨t1, t2⟩
            all_goals
              go_wp2_with fail
              go_ret3
              exact ⟨by rw [HR.out]; rfl, rfl⟩
          · have hr : getV (i + 1) (a + t) (l.drop (i + 1)) = getVarB l := by
              have h := HG.out
              rw [if_neg (by omega), if_neg h3] at h
              rw [htp]
              exact h
            have h9 : ¬ i = 9 := by omega
            have h8 : (128 : Nat) ^ (i + 1) ≤ 128 ^ 9 := Nat.pow_le_pow_right (by omega) (by omega)
            have hpp := hp.out
            have hp3 : p * 128 = 128 ^ (i + 1) := by rw [Nat.pow_succ, hpp]
            have HR := Lib.hid hr
            have HP := Lib.hid hp3
            have HB := Lib.hid (hb2.resolve_left h3)
            have hq : (p : Int) * 128 ≤ 9223372036854775808 := by omega
            have ha3 : a + t ≤ 9223372036854775808 := by have := HB.out; omega
            have t4 : ¬ (x : Int) < 128 := by omega
            have t1 : ((i : Int) == 9) = false := by simp; omega
            have t6 : ((x : Int) == 0) = false := by simp; omega
            clear hr ht htp hb1 hb2 h8 hpp hp3 h1 h2 hp
            by_cases h0 : 0 < i
            all_goals
              go_wp2_with fail
              go_round
              case rel => exact ⟨i + 1, a + t, p * 128, by go_num, by go_num, by go_num, by omega, by omega, HB, HP, by omega, ha3, HR⟩
              case measure => simp [intOf]; omega
    · have h := getV_end hil hg.out
      have HO := Lib.hid h
      clear h hg
      go_wp2_with fail
      go_ret3
      exact ⟨by rw [HO.out]; rfl, rfl⟩

end Go.Proofs.YthbhkdhljlganaaGreatDoor
