/- PagerPlays. -/
import Derived.Test.YtildohndbeagaaaGreatDoorPagerLeastJ50
import Derived.Test.YtildohndbeagaaaGreatDoorPagerLeastJ36
namespace Go.Proofs.YtildohndbeagaaaGreatDoor
open Go Go.RowKit
set_option linter.unusedVariables false

theorem blk_ne {W : World} {g g' : Nat} {t t' : TypeId} {cs cs' : Array Value} (h : Blk W g t cs) (h' : Blk W g' t' cs') (ht : t ≠ t') : g ≠ g' := fun e => by
  subst e
  have := (kind_blk h).symm.trans (kind_blk h')
  exact ht (by simpa using this)
theorem Pgr.write_fix (P : Pgr) (x : Int) (b : List UInt8) : (P.write x b).a = P.a ∧ (P.write x b).n = P.n ∧ (P.write x b).num = P.num := by
  unfold Pgr.write
  split <;> exact ⟨rfl, rfl, rfl⟩
theorem Pgr.free_fix (P : Pgr) (x : Int) : (P.free x).a = P.a ∧ (P.free x).n = P.n ∧ (P.free x).num = P.num := by
  unfold Pgr.free
  split <;> exact ⟨rfl, rfl, rfl⟩
theorem Pgr.alloc_fix (P : Pgr) (b : List UInt8) : (P.alloc b).1.a = P.a ∧ (P.alloc b).1.n = P.n ∧ (P.alloc b).1.num = P.num := by
  unfold Pgr.alloc
  split
  · exact ⟨rfl, rfl, rfl⟩
  · cases P.least <;> exact ⟨rfl, rfl, rfl⟩
theorem Pgr.act_fix (P : Pgr) (k id : Int) (b : List UInt8) : (P.act k id b).a = P.a ∧ (P.act k id b).n = P.n ∧ (P.act k id b).num = P.num := by
  unfold Pgr.act
  split
  · exact P.write_fix id b
  split
  · exact P.free_fix id
  split
  · exact P.alloc_fix b
  split <;> exact ⟨rfl, rfl, rfl⟩
theorem px_alike {w W : World} {Z : Pz} {P : Pgr} {c : Int → List UInt8} {R : Rpg} {cs : Array Value} (p : Px w W Z P c) (al : Al P c R) (rc : Rc R cs) {g : Nat} (hg : Z.g = g) :
    Calls Tryz.prog 11 #[.pointer (some ⟨g, 0, none⟩), .agg cs] W fun e W' => e = .returned (.bool true) ∧ Below W.heap.size W W' := by
  subst hg
  exact alike_any Z P c cs W p.pg p.pk.kp.mj.still.ok p.pk.stored p.pk.wlen p.pk.kp.mj.a0 p.pk.a1 (fun x h => p.pk.has90 h) (al.lk rc)
theorem Al.cWhy {P : Pgr} {c : Int → List UInt8} {R : Rpg} (h : Al P c R) (pk : Pk P c) (tag : Nat) : (P.next = none → R.cWhy = 133 ∧ R.commit tag = R) ∧ (P.next ≠ none → R.cWhy = 0 ∧ R.commit tag = R.kept tag) := by
  have hf := h.full pk
  refine ⟨fun hn => ?_, fun hn => ?_⟩
  · rw [decide_eq_true hn] at hf
    unfold Rpg.cWhy Rpg.commit
    rw [hf]
    exact ⟨rfl, rfl⟩
  · rw [decide_eq_false hn] at hf
    unfold Rpg.cWhy Rpg.commit
    rw [hf]
    exact ⟨rfl, rfl⟩
/-- What stands in memory, between the acts. -/
structure PyS (w W : World) (pd gm n : Nat) (Z : Pz) (P : Pgr) (c : Int → List UInt8) (R : Rpg) (cs : Array Value) : Prop where
  px : Px w W Z P c
  bm : Blk W gm 35 cs
  rc : Rc R cs
  al : Al P c R
  hg : Z.h.g = pd
  pa : P.a = 1
  pn : P.n = n
  gm : w.heap.size ≤ gm
section
variable {w W W' : World} {pd gm n : Nat} {Z Z' : Pz} {P P' : Pgr} {c c' : Int → List UInt8} {R R' : Rpg} {cs cs' : Array Value}
theorem PyS.later (s : PyS w W pd gm n Z P c R cs) (h : Below W.heap.size W W') : PyS w W' pd gm n Z P c R cs := ⟨s.px.later h, s.bm.later h, s.rc, s.al, s.hg, s.pa, s.pn, s.gm⟩
theorem PyS.places (s : PyS w W pd gm n Z P c R cs) : R.places = (n : Int) := by rw [s.al.places, s.pn]
/-- A new box holds a document's pager. -/
theorem PyS.box (s : PyS w W pd gm n Z P c R cs) (es ds : Array Value) : PyS w ((W.alloc (.cells ds 35)).setRow W.heap.size es) pd gm n Z P c R cs ∧ Blk ((W.alloc (.cells ds 35)).setRow W.heap.size es) W.heap.size 35 es :=
  ⟨s.later (below_setRow ((Below.refl _ _).alloc (Nat.le_refl _) _) (Nat.le_refl _) es), (Blk.new W _ ds).setRow es⟩
/-- The act is done on the pager: the document's is still to be put. -/
structure PyB (w W : World) (pd gm n : Nat) (Z : Pz) (P : Pgr) (c : Int → List UInt8) (R : Rpg) (cs es : Array Value) : Prop where
  px : Px w W Z P c
  bm : Blk W gm 35 cs
  rc : Rc R es
  al : Al P c R
  hg : Z.h.g = pd
  pa : P.a = 1
  pn : P.n = n
  gm : w.heap.size ≤ gm
theorem PyB.later (s : PyB w W pd gm n Z P c R cs cs') (h : Below W.heap.size W W') : PyB w W' pd gm n Z P c R cs cs' := ⟨s.px.later h, s.bm.later h, s.rc, s.al, s.hg, s.pa, s.pn, s.gm⟩
theorem PyB.put (s : PyB w W pd gm n Z P c R cs cs') : PyS w (W.setRow gm cs') pd gm n Z P c R cs' := ⟨Px.row s.px s.bm (by decide) s.gm cs', s.bm.setRow cs', s.rc, s.al, s.hg, s.pa, s.pn, s.gm⟩
end

set_option maxHeartbeats 16000000 in
set_option maxRecDepth 100000 in
theorem law_PagerPlays (pl : Nat) (v : Value) (xs : List PAct) (w : World) (hb : BitsOk w ∧ TabOk w) (hpl : pl < 256) (hv : PActs w v xs) :
    Calls Tryz.prog 5 #[.int .u8 (pl : Int), v] w fun e w' => e = .returned (.bool true) ∧ Below w.heap.size w w' := by
  have HBI := Lib.hid hb.1
  have HTA := Lib.hid hb.2
  have H0 := Lib.hid hb.1.pos
  have hu := Tryz.underlying35
  have hu6 := Tryz.underlying54
  obtain ⟨A0, c0, rfl, hmx, hok, hA0⟩ := hv
  have HA := Lib.hid hA0
  have HX := Lib.hid hok
  clear hb hA0 hok
  obtain ⟨n, hn⟩ : ∃ n : Nat, n = 2 + pl % 12 := ⟨_, rfl⟩
  have e1 : (pl : Int).tmod 12 = ((pl % 12 : Nat) : Int) := by rw [Int.tmod_eq_emod_of_nonneg (by omega)]; omega
  have e2 : IntKind.i64.wrap (2 + ((pl % 12 : Nat) : Int)) = (n : Int) := by rw [i64_inp (by omega) (by omega), hn]; omega
  have e3 : IntKind.i64.wrap ((pl % 12 : Nat) : Int) = ((pl % 12 : Nat) : Int) := i64_inp (by omega) (by omega)
  have e4 : 2 + (pl : Int) % 12 = (n : Int) := by rw [hn]; omega
  have E4 := Lib.hid e4
  clear e4
  have hn2 : 2 ≤ n := by omega
  have hn101 : n ≤ 13 := by omega
  clear hn
  go_enter Tryz.func5, Tryz.ntmps5
  go_wp2_with fail
  rw [E4.out]
  clear e1 e2 e3
  refine (fresh13_any n (fun _ => []) w hn2 (by omega)).mono ?_
  rintro e w1 ⟨pd, Z, rfl, hx, hz⟩
  have X1 := Lib.hid hx
  have HZ0 := Lib.hid hz
  clear hx hz
  have AL0 : Hid (Al (pgNew (Dsk.new 2000) 1 n 0 1 (0, fun _ => none)) (fun _ => []) (Rpg.new n)) := Al.new _ _ _ _ _ _
  have FX0 : Hid ((pgNew (Dsk.new 2000) 1 n 0 1 (0, fun _ => none)).a = 1 ∧ (pgNew (Dsk.new 2000) 1 n 0 1 (0, fun _ => none)).n = n ∧ (pgNew (Dsk.new 2000) 1 n 0 1 (0, fun _ => none)).num = 0) := ⟨rfl, rfl, rfl⟩
  generalize pgNew (Dsk.new 2000) 1 n 0 1 (0, fun _ => none) = P0 at *
  go_wp2_with fail
  refine (awake13_any _ (HTA.out.later X1.out.below) (HBI.out.later X1.out.below)).mono ?_
  rintro e w2 ⟨rfl, hbl⟩
  have X2 := Lib.hid (X1.out.later hbl)
  clear hbl X1
  go_wp2_with fail
  refine (rnew13_any (n : Int) _).mono ?_
  rintro e w3 ⟨rfl, hb3⟩
  have SZ := Lib.hid (rc_new (n : Int)).size
  have ON := Lib.hid (rc_new (n : Int)).one
  have BZ := Lib.hid (Blk.new w3 35 Tryz.zeroCells35)
  have hX3 := X2.out.later hb3
  have S0 : Hid (PyS w ((w3.alloc (.cells Tryz.zeroCells35 35)).setRow w3.heap.size (new13 n)) pd w3.heap.size n Z P0 (fun _ => []) (Rpg.new n) (new13 n)) :=
    ⟨hX3.later (below_setRow ((Below.refl _ _).alloc (Nat.le_refl _) _) (Nat.le_refl _) _), BZ.out.setRow (new13 n), rc_new _, AL0.out, HZ0.out, FX0.out.1, FX0.out.2.1, hX3.below.size⟩
  clear hX3 X2 hb3
  go_upto_region 6 with (refine wpList_store_row rfl _ (.tmp 8) (.tmp 37) rfl w3.heap.size (new13 n) rfl rfl _ Tryz.zeroCells35 BZ.out (rpgInfo SZ.out) (by rw [zero13_size, SZ.out]) ON.out ?_)
  generalize hW3 : (w3.alloc _).setRow _ (new13 n) = W3 at *
  generalize w3.heap.size = gm at *
  generalize new13 (n : Int) = cs0 at *
  clear hW3 BZ
  have HN0 := Lib.hid FX0.out.2.2
  go_wp2_with fail
  go_loopw [7, 9] (fun pv iv wr => ∃ (i : Nat) (Z : Pz) (P : Pgr) (c : Int → List UInt8) (R : Rpg) (cs : Array Value), pv = .pointer (some ⟨Z.g, 0, none⟩) ∧ iv = .int .i64 (i : Int) ∧ i ≤ xs.length ∧ i ≤ 30 ∧ P.num ≤ i ∧ Hid (PyS w wr pd gm n Z P c R cs)) (fun _ iv _ => xs.length - (intOf iv).toNat)
  case atStart => exact ⟨0, Z, P0, _, _, cs0, rfl, rfl, by omega, by omega, by rw [HN0.out]; omega, S0⟩
  case round =>
    clear S0 AL0 FX0 HN0 SZ ON HZ0
    obtain ⟨i, Z, P, c, R, cs, rfl, rfl, hi, hi40, hnum, S⟩ := hrel
    have hsz := S.out.px.below.size
    by_cases hil4 : i < 30
    case neg =>
      by_cases hil : i < xs.length
      · go_wp2_with fail
        go_ret
        exact ⟨rfl, S.out.px.below⟩
      · go_wp2_with fail
        go_ret
        exact ⟨rfl, S.out.px.below⟩
    by_cases hil : i < xs.length
    case neg =>
      go_wp2_with fail
      go_ret
      exact ⟨rfl, S.out.px.below⟩
    obtain ⟨b, o, rfl, hbl, hcell⟩ := HA.out (by omega)
    obtain ⟨k0, k1, k2, k3, k4, k5⟩ := hcell i hil
    have old : ∀ p : Addr, p.block < w.heap.size → wr.cell? p = w.cell? p := fun p hp => S.out.px.below.cell hp
    have x0 := (old ⟨b, o + i * 6, none⟩ hbl).trans k0
    have x1 := (old ⟨b, o + i * 6 + 1, none⟩ hbl).trans k1
    have x2 := (old ⟨b, o + i * 6 + 2, none⟩ hbl).trans k2
    have x3 := (old ⟨b, o + i * 6 + 3, none⟩ hbl).trans k3
    have x4 := (old ⟨b, o + i * 6 + 4, none⟩ hbl).trans k4
    have x5 := (old ⟨b, o + i * 6 + 5, none⟩ hbl).trans k5
    have HXI := Lib.hid (HX.out _ (List.getElem_mem hil))
    clear hcell k0 k1 k2 k3 k4 k5 old
    generalize xs[i] = x at *
    go_wp2_with fail
    refine (few13_any w.heap.size x wr (HXI.out.2.2.2.2.2.later S.out.px.below) hsz).mono ?_
    rintro e w4 ⟨vl, rfl, hsv, hbl4⟩
    obtain ⟨A1, c1, rfl, -⟩ := hsv.at
    have S4 := Lib.hid (S.out.later hbl4)
    have IDI := Lib.hid HXI.out.2.1
    have TGU := Lib.hid HXI.out.2.2.2.1
    clear hsv hbl4 hsz
    obtain ⟨kind, id, nst, tag, body0, left0, v0⟩ := x
    simp only at IDI TGU x0 x1 x2 x3 x4 x5 ⊢
    have TL : Hid ((body0.take 2100).length ≤ 2100) := by rw [Hid, List.length_take]; omega
    generalize body0.take 2100 = t at *
    generalize left0.take 60 = l at *
    clear HXI x0 x1 x2 x3 x4 x5 S
    have S5 := Lib.hid (S4.out.later ((Below.refl w4.heap.size w4).alloc (Nat.le_refl _) (.cells #[.int .i64 kind, .int .i64 id, .int .i64 nst, .int .u64 (tag : Int), .string (st t), .slice A1 l.length c1] 54)))
    have BX := Lib.hid (Blk.new w4 54 #[.int .i64 kind, .int .i64 id, .int .i64 nst, .int .u64 (tag : Int), .string (st t), .slice A1 l.length c1])
    go_upto_region 10 with (fail)
    generalize hW : w4.alloc _ = W at *
    generalize w4.heap.size = gx at *
    clear hW S4
    have SCS := Lib.hid S5.out.rc.size
    have BMM := Lib.hid S5.out.bm
    go_wp2_with (first | (refine wpList_load_row rfl _ (.tmp 8) rfl gm rfl _ cs _ _ BMM.out hu rfl (rpgInfo SCS.out) ?_) | (refine wpList_load_row rfl _ (.tmp 10) rfl gx rfl _ _ _ _ BX.out hu6 rfl pactTy.2 ?_))
    refine (do13_any S5.out.px S5.out.rc kind id nst tag t A1 l.length c1 IDI.out (Nat.le_trans TL.out (by omega)) rfl).mono ?_
    rintro e w6 ⟨ds, ok, rfl, hcd, hx6, hok, ht6⟩
    obtain rfl := hok S5.out.al
    obtain ⟨f1, f2, f3⟩ := P.act_fix kind id t
    have S6 : Hid (PyB w w6 pd gm n Z (P.act kind id t) c (R.act kind id t) cs ds) := ⟨hx6, S5.out.px.blk ht6 BMM.out (by decide) (by decide) (by decide) (by decide), hcd, S5.out.al.act S5.out.px.pk kind id t, S5.out.hg, f1.trans S5.out.pa, f2.trans S5.out.pn, S5.out.gm⟩
    have BX6 := Lib.hid (S5.out.px.blk ht6 BX.out (by decide) (by decide) (by decide) (by decide))
    have hnum6 : (P.act kind id t).num ≤ i := by omega
    have HSD := Lib.hid hcd.size
    have H1D := Lib.hid hcd.one
    have HACT : Hid ((kind = 3 ∨ kind = 5) → P.act kind id t = P ∧ R.act kind id t = R) := fun h => by
      rcases h with rfl | rfl <;> exact ⟨by simp [Pgr.act], by simp [Rpg.act]⟩
    generalize P.act kind id t = P6 at *
    generalize R.act kind id t = R6 at *
    clear hok ht6 hx6 hcd f1 f2 f3 S5 BX BMM
    have BZ := Lib.hid (Blk.new w6 35 Tryz.zeroCells35)
    have hq7 : Below w6.heap.size w6 ((w6.alloc (.cells Tryz.zeroCells35 35)).setRow w6.heap.size ds) := below_setRow ((Below.refl _ _).alloc (Nat.le_refl _) _) (Nat.le_refl _) ds
    have S7 := Lib.hid (S6.out.later hq7)
    have BX7 := Lib.hid (BX6.out.later hq7)
    have BK7 := Lib.hid (BZ.out.setRow ds)
    clear hq7
    go_upto_region 11 with (refine wpList_store_row rfl _ (.tmp 11) (.tmp 58) rfl w6.heap.size ds rfl rfl _ Tryz.zeroCells35 BZ.out (rpgInfo HSD.out) (by rw [zero13_size, HSD.out]) H1D.out ?_)
    generalize hW7 : (w6.alloc _).setRow _ ds = w7 at *
    generalize w6.heap.size = gk at *
    clear hW7 BZ S6 BX6
    have BM7 := Lib.hid S7.out.bm
    have S8 := Lib.hid S7.out.put
    have BX8 := Lib.hid (BX7.out.farRow (blk_ne BX7.out BM7.out (by decide)) ds)
    go_upto_region 12 with (first | (refine wpList_load_row rfl _ (.tmp 11) rfl gk rfl _ ds _ _ BK7.out hu rfl (rpgInfo HSD.out) ?_) | (refine wpList_store_row rfl _ (.tmp 8) (.tmp 60) rfl gm ds rfl rfl _ cs BM7.out (rpgInfo HSD.out) (by rw [SCS.out, HSD.out]) H1D.out ?_))
    generalize hW8 : w7.setRow _ ds = w8 at *
    clear hW8 BM7 S7 BK7 BX7 SCS
    have BM8 := Lib.hid S8.out.bm
    have y0 : (w8).cell? ⟨gx, 0, none⟩ = some (.int .i64 kind) := BX8.out.cell 0
    have y1 : (w8).cell? ⟨gx, 1, none⟩ = some (.int .i64 id) := BX8.out.cell 1
    have y2 : (w8).cell? ⟨gx, 2, none⟩ = some (.int .i64 nst) := BX8.out.cell 2
    have y3 : (w8).cell? ⟨gx, 3, none⟩ = some (.int .u64 (tag : Int)) := BX8.out.cell 3
    have y4 : (w8).cell? ⟨gx, 4, none⟩ = some (.string (st t)) := BX8.out.cell 4
    have y5 : (w8).cell? ⟨gx, 5, none⟩ = some (.slice A1 l.length c1) := BX8.out.cell 5
    by_cases hk3 : kind = 3
    · subst hk3
      go_wp2_with (refine wpList_load_row rfl _ (.tmp 8) rfl gm rfl _ ds _ _ BM8.out hu rfl (rpgInfo HSD.out) ?_)
      refine (rcommit13_any R6 ds tag w8 S8.out.rc (by rw [S8.out.places]; omega) (by rw [S8.out.places]; omega)).mono ?_
      rintro e w9 ⟨es, rfl, hce, hb9⟩
      obtain ⟨hc1, hc2⟩ := S8.out.al.cWhy S8.out.px.pk tag
      obtain ⟨cw, hcw⟩ : ∃ cw, R6.cWhy = cw := ⟨_, rfl⟩
      rw [hcw]
      have HC1 := Lib.hid hc1
      have HC2 := Lib.hid hc2
      have HCW := Lib.hid hcw
      have HCE := Lib.hid hce
      have HSE := Lib.hid hce.size
      have H1E := Lib.hid hce.one
      have S9 := Lib.hid (S8.out.later hb9)
      have BX9 := Lib.hid (BX8.out.later hb9)
      have BZ9 := Lib.hid (Blk.new w9 35 Tryz.zeroCells35)
      have hq10 : Below w9.heap.size w9 ((w9.alloc (.cells Tryz.zeroCells35 35)).setRow w9.heap.size es) := below_setRow ((Below.refl _ _).alloc (Nat.le_refl _) _) (Nat.le_refl _) es
      have S10 := Lib.hid (S9.out.later hq10)
      have BX10 := Lib.hid (BX9.out.later hq10)
      have BC10 := Lib.hid (BZ9.out.setRow es)
      clear hq10 hc1 hc2 hcw hce hb9 y0 y1 y2 y3 y4 y5
      go_upto_region 14 with (refine wpList_store_row rfl _ (.tmp 13) (.tmp 69) rfl w9.heap.size es rfl rfl _ Tryz.zeroCells35 BZ9.out (rpgInfo HSE.out) (by rw [zero13_size, HSE.out]) H1E.out ?_)
      generalize hW10 : (w9.alloc _).setRow _ es = w10 at *
      generalize w9.heap.size = gc at *
      clear hW10 BZ9 S9 BX9
      have BM10 := Lib.hid S10.out.bm
      have PX11 := Lib.hid (Px.row S10.out.px S10.out.bm (by decide) S10.out.gm es)
      have BM11 := Lib.hid (S10.out.bm.setRow es)
      have BX11 := Lib.hid (BX10.out.farRow (blk_ne BX10.out BM10.out (by decide)) es)
      go_upto_region 15 with (first | (refine wpList_load_row rfl _ (.tmp 13) rfl gc rfl _ es _ _ BC10.out hu rfl (rpgInfo HSE.out) ?_) | (refine wpList_store_row rfl _ (.tmp 8) (.tmp 71) rfl gm es rfl rfl _ ds BM10.out (rpgInfo HSE.out) (by rw [HSD.out, HSE.out]) H1E.out ?_))
      generalize hW11 : w10.setRow _ es = w11 at *
      clear hW11 BM10 BC10 BX10
      have y0 : (w11).cell? ⟨gx, 0, none⟩ = some (.int .i64 3) := BX11.out.cell 0
      have y1 : (w11).cell? ⟨gx, 1, none⟩ = some (.int .i64 id) := BX11.out.cell 1
      have y2 : (w11).cell? ⟨gx, 2, none⟩ = some (.int .i64 nst) := BX11.out.cell 2
      have y3 : (w11).cell? ⟨gx, 3, none⟩ = some (.int .u64 (tag : Int)) := BX11.out.cell 3
      have y4 : (w11).cell? ⟨gx, 4, none⟩ = some (.string (st t)) := BX11.out.cell 4
      have y5 : (w11).cell? ⟨gx, 5, none⟩ = some (.slice A1 l.length c1) := BX11.out.cell 5
      go_wp2_with fail
      refine (px_commit PX11.out tag TGU.out (by omega) (HTA.out.later PX11.out.below) (HBI.out.later PX11.out.below) H0.out rfl).mono ?_
      rintro e w12 hcm
      clear y0 y1 y2 y3 y4 y5
      rcases hcm with ⟨hnx, rfl, Z', hx, hg, hhg, ht⟩ | ⟨tt, D', Z', hnx, rfl, hx, hg, hhg, ht⟩
      · obtain rfl : cw = 133 := HCW.out.symm.trans (HC1.out hnx).1
        have BX12 := Lib.hid (PX11.out.blk ht BX11.out (by decide) (by decide) (by decide) (by decide))
        have BM12 := Lib.hid (PX11.out.blk ht BM11.out (by decide) (by decide) (by decide) (by decide))
        have S12 : Hid (PyS w w12 pd gm n Z' P6 c R6 es) := ⟨hx, BM12.out, by have := HCE.out; rw [(HC1.out hnx).2] at this; exact this, S8.out.al, hhg.trans S8.out.hg, S8.out.pa, S8.out.pn, S8.out.gm⟩
        have HG := Lib.hid hg
        clear hx hg hhg ht hnx
        have y0 : (w12).cell? ⟨gx, 0, none⟩ = some (.int .i64 3) := BX12.out.cell 0
        have y1 : (w12).cell? ⟨gx, 1, none⟩ = some (.int .i64 id) := BX12.out.cell 1
        have y2 : (w12).cell? ⟨gx, 2, none⟩ = some (.int .i64 nst) := BX12.out.cell 2
        have y3 : (w12).cell? ⟨gx, 3, none⟩ = some (.int .u64 (tag : Int)) := BX12.out.cell 3
        have y4 : (w12).cell? ⟨gx, 4, none⟩ = some (.string (st t)) := BX12.out.cell 4
        have y5 : (w12).cell? ⟨gx, 5, none⟩ = some (.slice A1 l.length c1) := BX12.out.cell 5
        go_wp2_with fail
        refine wp_load_row _ (.tmp 8) rfl gm rfl _ es _ _ BM12.out hu rfl (rpgInfo HSE.out) ?_
        go_wp2_with fail
        refine (px_alike S12.out.px S12.out.al S12.out.rc HG.out).mono ?_
        rintro e wz ⟨rfl, hbz⟩
        have SZZ := Lib.hid (S12.out.later hbz)
        go_wp2_with fail
        go_roundw
        case rel => exact ⟨i + 1, Z', P6, c, R6, es, by rw [HG.out], by go_num, by omega, by omega, by omega, SZZ⟩
        case measure => simp [intOf]; omega
      · have hnn : P6.next ≠ none := by rw [hnx]; simp
        obtain rfl : cw = 0 := HCW.out.symm.trans (HC2.out hnn).1
        have BX12 := Lib.hid (PX11.out.blk ht BX11.out (by decide) (by decide) (by decide) (by decide))
        have BM12 := Lib.hid (PX11.out.blk ht BM11.out (by decide) (by decide) (by decide) (by decide))
        have S12 : Hid (PyS w w12 pd gm n Z' ⟨D', P6.a, P6.n, P6.num + 1, 1 - P6.last, tag, tt, fun _ => none, fun _ => false⟩ (newC P6 c) (R6.kept tag) es) := ⟨hx, BM12.out, by have := HCE.out; rw [(HC2.out hnn).2] at this; exact this, S8.out.al.kept S8.out.px.pk hnx D' _ _ tag, hhg.trans S8.out.hg, S8.out.pa, S8.out.pn, S8.out.gm⟩
        have HG := Lib.hid hg
        have hnum12 : (⟨D', P6.a, P6.n, P6.num + 1, 1 - P6.last, tag, tt, fun _ => none, fun _ => false⟩ : Pgr).num ≤ i + 1 := by simp only; omega
        generalize (⟨D', P6.a, P6.n, P6.num + 1, 1 - P6.last, tag, tt, fun _ => none, fun _ => false⟩ : Pgr) = P12 at *
        generalize newC P6 c = c12 at *
        generalize R6.kept tag = R12 at *
        clear hx hg hhg ht hnx hnn
        have y0 : (w12).cell? ⟨gx, 0, none⟩ = some (.int .i64 3) := BX12.out.cell 0
        have y1 : (w12).cell? ⟨gx, 1, none⟩ = some (.int .i64 id) := BX12.out.cell 1
        have y2 : (w12).cell? ⟨gx, 2, none⟩ = some (.int .i64 nst) := BX12.out.cell 2
        have y3 : (w12).cell? ⟨gx, 3, none⟩ = some (.int .u64 (tag : Int)) := BX12.out.cell 3
        have y4 : (w12).cell? ⟨gx, 4, none⟩ = some (.string (st t)) := BX12.out.cell 4
        have y5 : (w12).cell? ⟨gx, 5, none⟩ = some (.slice A1 l.length c1) := BX12.out.cell 5
        go_wp2_with fail
        refine wp_load_row _ (.tmp 8) rfl gm rfl _ es _ _ BM12.out hu rfl (rpgInfo HSE.out) ?_
        go_wp2_with fail
        refine (px_alike S12.out.px S12.out.al S12.out.rc HG.out).mono ?_
        rintro e wz ⟨rfl, hbz⟩
        have SZZ := Lib.hid (S12.out.later hbz)
        go_wp2_with fail
        go_roundw
        case rel => exact ⟨i + 1, Z', P12, c12, R12, es, by rw [HG.out], by go_num, by omega, by omega, hnum12, SZZ⟩
        case measure => simp [intOf]; omega
    by_cases hk5 : kind = 5
    · subst hk5
      have hPD : pgNew P6.D 1 n P6.num P6.last (P6.tag, P6.tb) = P6.drop := by
        have h1 := S8.out.pa
        have h2 := S8.out.pn
        unfold pgNew Pgr.drop
        rw [h1, h2]
      have HK : Hid (Kp P6.D 1 n P6.num P6.last P6.tag P6.tb c) := by
        have h := S8.out.px.pk.kp
        rw [S8.out.pa, S8.out.pn] at h
        exact h
      go_wp2_with fail
      refine (px_open S8.out.px.dp HK.out S8.out.px.num S8.out.hg).mono ?_
      rintro e w9 ⟨Z', rfl, hx, hz, hb9⟩
      rw [hPD] at hx
      have PX9 := Lib.hid hx
      have HZ9 := Lib.hid hz
      have BM9 := Lib.hid (BM8.out.later hb9)
      have BX9 := Lib.hid (BX8.out.later hb9)
      clear hx hz hb9 hPD y0 y1 y2 y3 y4 y5
      go_wp2_with (refine wpList_load_row rfl _ (.tmp 8) rfl gm rfl _ ds _ _ BM9.out hu rfl (rpgInfo HSD.out) ?_)
      refine (rdrop13_any R6 ds w9 S8.out.rc).mono ?_
      rintro e w10 ⟨es, rfl, hce, hb10⟩
      have HSE := Lib.hid hce.size
      have H1E := Lib.hid hce.one
      have BM10 := Lib.hid (BM9.out.later hb10)
      have BX11 := Lib.hid ((BX9.out.later hb10).farRow (blk_ne BX9.out BM9.out (by decide)) es)
      have SB : PyB w w10 pd gm n Z' P6.drop c R6.drop ds es := ⟨PX9.out.later hb10, BM10.out, hce, S8.out.al.drop, by rw [HZ9.out]; exact S8.out.hg, S8.out.pa, S8.out.pn, S8.out.gm⟩
      have S11 := Lib.hid SB.put
      have hnum11 : P6.drop.num ≤ i := hnum6
      generalize P6.drop = P11 at *
      generalize R6.drop = R11 at *
      clear SB hce hb10 PX9 HZ9 BX9 BM9
      go_upto_region 21 with (refine wpList_store_row rfl _ (.tmp 8) (.tmp 95) rfl gm es rfl rfl _ ds BM10.out (rpgInfo HSE.out) (by rw [HSD.out, HSE.out]) H1E.out ?_)
      generalize hW11 : w10.setRow _ es = w11 at *
      clear hW11 BM10
      have BM11 := Lib.hid S11.out.bm
      go_wp2_with fail
      refine wp_load_row _ (.tmp 8) rfl gm rfl _ es _ _ BM11.out hu rfl (rpgInfo HSE.out) ?_
      go_wp2_with fail
      refine (px_alike S11.out.px S11.out.al S11.out.rc rfl).mono ?_
      rintro e wz ⟨rfl, hbz⟩
      have SZZ := Lib.hid (S11.out.later hbz)
      go_wp2_with fail
      go_roundw
      case rel => exact ⟨i + 1, Z', P11, c, R11, es, rfl, by go_num, by omega, by omega, by omega, SZZ⟩
      case measure => simp [intOf]; omega
    go_wp2_with fail
    refine wp_load_row _ (.tmp 8) rfl gm rfl _ ds _ _ BM8.out hu rfl (rpgInfo HSD.out) ?_
    go_wp2_with fail
    refine (px_alike S8.out.px S8.out.al S8.out.rc rfl).mono ?_
    rintro e wz ⟨rfl, hbz⟩
    have SZZ := Lib.hid (S8.out.later hbz)
    go_wp2_with fail
    go_roundw
    case rel => exact ⟨i + 1, Z, P6, c, R6, ds, rfl, by go_num, by omega, by omega, by omega, SZZ⟩
    case measure => simp [intOf]; omega
end Go.Proofs.YtildohndbeagaaaGreatDoor
