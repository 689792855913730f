/- What the proof of PagerKeeps needs, part 3. -/
import Derived.Test.YtildohndbeagaaaGreatDoorPagerKeepsJ2
import Derived.Test.YtildohndbeagaaaGreatDoorPagerLeastJ28
namespace Go.Proofs.YtildohndbeagaaaGreatDoor
open Go Go.RowKit
set_option linter.unusedVariables false

theorem Sv.again {w w1 w2 : World} {v : Value} {l : List (Int × Int)} (h : Sv (fun b => b < w.heap.size) w1 v l) (h1 : Below w.heap.size w w1) (h2 : Below w.heap.size w w2) : Sv (fun b => b < w.heap.size) w2 v l :=
  Sl.keep h fun b o hs => World.cell?_of_block ((h2.block b hs).trans (h1.block b hs).symm)
theorem px_alikeb {w W : World} {Z : Pz} {P : Pgr} {c : Int → List UInt8} {R : Rpg} {cs : Array Value} (p : Px w W Z P c) (rc : Rc R cs) {g : Nat} (hg : Z.g = g) :
    Calls Tryz.prog 11 #[.pointer (some ⟨g, 0, none⟩), .agg cs] W (AbPost W P c R) := by
  subst hg
  exact alike13_bool Z P c R cs W p.pg p.pk.kp.mj.still.ok p.pk.stored p.pk.wlen p.pk.kp.mj.a0 p.pk.a1 (fun x h => p.pk.has90 h) rc
/-- Newly opened it shows what the document's, dropped, shows: they are alike. -/
theorem Alk.al {D : Dsk} {a : Int} {n num : Nat} {last : Int} {tag : Nat} {tb : TF} {c : Int → List UInt8} {R : Rpg} (h : Alk (pgNew D a n num last (tag, tb)) c R.drop) (hp : R.places = (n : Int)) : Al (pgNew D a n num last (tag, tb)) c R.drop := by
  have hhas : ∀ y, (pgNew D a n num last (tag, tb)).has y = (tb y).isSome := fun y => by simp [pgNew, Pgr.has]
  refine ⟨hp, h.1, fun i hi => (h.2 i hi).1, fun i hi hh => (h.2 i hi).2 hh, fun i hi => rfl, fun i hi => ?_, fun i hi hh => ?_⟩
  · have := (h.2 i hi).1
    rw [hhas] at this
    exact this
  · have h2 := (h.2 i hi).2 (by rw [hhas]; exact hh)
    have h3 : ((pgNew D a n num last (tag, tb)).page c (i : Int)).getD [] = c (i : Int) := by
      unfold Pgr.page
      rw [hhas, show (tb (i : Int)).isSome = true from hh]
      rfl
    rw [h3] at h2
    exact h2
theorem Al.moved {P : Pgr} {c : Int → List UInt8} {R : Rpg} (h : Al P.drop c R) (D : Dsk) (a : Int) {n : Nat} (hn : P.n = n) (num : Nat) (last : Int) : Al (pgNew D a n num last (P.tag, P.tb)) c R := by
  subst hn
  exact ⟨h.places, h.tag, h.has, h.now, h.wrote, h.oldHas, h.old⟩
def StPost (w W : World) (Z : Pz) (P : Pgr) (c : Int → List UInt8) (tag : Nat) (e : Ending) (W' : World) : Prop :=
  (P.next = none ∧ e = .returned (.tuple #[.bool false, .int .i64 133]) ∧ ∃ Z', Px w W' Z' P c ∧ Z'.g = Z.g ∧ Z'.h.g = Z.h.g ∧ Ptp Z W Z' W') ∨
  (∃ t D' Z', P.next = some t ∧ e = .returned (.tuple #[.bool true, .int .i64 0]) ∧ Px w W' Z' ⟨D', P.a, P.n, P.num + 1, 1 - P.last, tag, t, fun _ => none, fun _ => false⟩ (newC P c) ∧ Z'.g = Z.g ∧ Z'.h.g = Z.h.g ∧ Ptp Z W Z' W') ∨
  (∃ t D' Z', P.next = some t ∧ e = .returned (.tuple #[.bool false, .int .i64 0]) ∧ Dp w W' Z'.h D' ∧ Z'.h.g = Z.h.g ∧ Ptp Z W Z' W' ∧ D'.Ok ∧ D'.pend.length ≤ 400 ∧ ∀ l, Kp (D'.crash l) P.a P.n P.num P.last P.tag P.tb c ∨ Kp (D'.crash l) P.a P.n (P.num + 1) (1 - P.last) tag t (newC P c))
theorem px_steps {w W : World} {Z : Pz} {P : Pgr} {c : Int → List UInt8} (p : Px w W Z P c) (tag : Nat) (k : Int) (htag : tag < U64) (hn : P.num + 1 ≤ 100000) (hT : TabOk W) (hB : BitsOk W) (h0 : 0 < w.heap.size) (hk : InI k) {g : Nat} (hg : Z.g = g) :
    Calls Tryz.prog 25 #[.pointer (some ⟨g, 0, none⟩), .int .u64 (tag : Int), .int .i64 k] W (StPost w W Z P c tag) := by
  subst hg
  have hpe := p.pk.kp.mj.still.pend
  have hl := p.pk.l01
  have hnu : P.num + 1 < U64 := by have := hn; unfold U64; omega
  refine (psteps_any Z P tag k W hT hB p.pg p.pk.kp.mj.still.ok p.pk.kp.n2 p.pk.kp.n256 p.pk.kp.tok p.pk.wlen p.pk.kp.mj.a0 p.pk.a1 hl.1 hl.2 (by omega) htag hk (p.z0 h0) (by rw [hpe]; simp) (by rw [hpe]; simp)).mono ?_
  rintro e W' ⟨he, Z', h1, h2⟩
  cases hnx : P.next with
  | none =>
    have hs : P.steps tag k = ⟨P, false, 133⟩ := by unfold Pgr.steps; rw [hnx]
    rw [hs] at he h1
    exact .inl ⟨hnx, he, Z', p.ptp h2 h1 p.pk p.num, h2.g, h2.hg, h2⟩
  | some t =>
    have ho := p.pk.steps hnu htag hnx k
    rw [ho.err] at he
    cases hd : (P.steps tag k).done with
    | true =>
      obtain ⟨D', h3, h4, h5⟩ := ho.done hd
      rw [hd] at he
      rw [h3] at h1
      exact .inr (.inl ⟨t, D', Z', hnx, he, p.ptp h2 h1 ⟨h4, fun x hx => (by cases hx), fun x b hx => (by cases hx), fun x hx => (by cases hx)⟩ (by simpa using hn), h2.g, h2.hg, h2⟩)
    | false =>
      obtain ⟨⟨D', h3⟩, h4⟩ := ho.stop hd
      have hok := ho.ok
      have hpd := ho.pend
      rw [hd] at he
      rw [h3] at h1 h4 hok hpd
      exact .inr (.inr ⟨t, D', Z', hnx, he, ⟨h1.dk, fun b hb => (h2.has b (.inr (.inr (.inr (.inr (.inr hb)))))).elim (p.new b) (fun h => Nat.le_trans p.below.size h), Turn.below p.below h2.turn p.below.size p.new⟩, h2.hg, h2, hok, hpd, fun l => (h4 l).2⟩)

set_option maxHeartbeats 16000000 in
set_option maxRecDepth 100000 in
theorem law_PagerKeeps (pl : Nat) (v : Value) (xs : List PAct) (w : World) (hb : BitsOk w ∧ TabOk w) (hpl : pl < 256) (hv : PActs w v xs) :
    Calls Tryz.prog 6 #[.int .u8 (pl : Int), v] w fun e w' => e = .returned (.bool true) ∧ Below w.heap.size w w' := by
  have HBI := Lib.hid hb.1
  have HTA := Lib.hid hb.2
  have H0 := Lib.hid hb.1.pos
  have hu := Tryz.underlying35
  have hu6 := Tryz.underlying54
  obtain ⟨A0, c0, rfl, hmx, hok, hA0⟩ := hv
  have HA := Lib.hid hA0
  have HX := Lib.hid hok
  clear hb hA0 hok
  obtain ⟨n, hn⟩ : ∃ n : Nat, n = 2 + pl % 12 := ⟨_, rfl⟩
  have e1 : (pl : Int).tmod 12 = ((pl % 12 : Nat) : Int) := by rw [Int.tmod_eq_emod_of_nonneg (by omega)]; omega
  have e2 : IntKind.i64.wrap (2 + ((pl % 12 : Nat) : Int)) = (n : Int) := by rw [i64_inp (by omega) (by omega), hn]; omega
  have e3 : IntKind.i64.wrap ((pl % 12 : Nat) : Int) = ((pl % 12 : Nat) : Int) := i64_inp (by omega) (by omega)
  have e4 : 2 + (pl : Int) % 12 = (n : Int) := by rw [hn]; omega
  have E4 := Lib.hid e4
  clear e4
  have hn2 : 2 ≤ n := by omega
  have hn101 : n ≤ 13 := by omega
  clear hn
  go_enter Tryz.func6, Tryz.ntmps6
  go_wp2_with fail
  rw [E4.out]
  clear e1 e2 e3
  refine (fresh13_any n (fun _ => []) w hn2 (by omega)).mono ?_
  rintro e w1 ⟨pd, Z, rfl, hx, hz⟩
  have X1 := Lib.hid hx
  have HZ0 := Lib.hid hz
  clear hx hz
  have AL0 : Hid (Al (pgNew (Dsk.new 2000) 1 n 0 1 (0, fun _ => none)) (fun _ => []) (Rpg.new n)) := Al.new _ _ _ _ _ _
  have FX0 : Hid ((pgNew (Dsk.new 2000) 1 n 0 1 (0, fun _ => none)).a = 1 ∧ (pgNew (Dsk.new 2000) 1 n 0 1 (0, fun _ => none)).n = n ∧ (pgNew (Dsk.new 2000) 1 n 0 1 (0, fun _ => none)).num = 0) := ⟨rfl, rfl, rfl⟩
  generalize pgNew (Dsk.new 2000) 1 n 0 1 (0, fun _ => none) = P0 at *
  go_wp2_with fail
  refine (awake13_any _ (HTA.out.later X1.out.below) (HBI.out.later X1.out.below)).mono ?_
  rintro e w2 ⟨rfl, hbl⟩
  have X2 := Lib.hid (X1.out.later hbl)
  clear hbl X1
  go_wp2_with fail
  refine (rnew13_any (n : Int) _).mono ?_
  rintro e w3 ⟨rfl, hb3⟩
  have SZ := Lib.hid (rc_new (n : Int)).size
  have ON := Lib.hid (rc_new (n : Int)).one
  have BZ := Lib.hid (Blk.new w3 35 Tryz.zeroCells35)
  have hX3 := X2.out.later hb3
  have S0 : Hid (PyS w ((w3.alloc (.cells Tryz.zeroCells35 35)).setRow w3.heap.size (new13 n)) pd w3.heap.size n Z P0 (fun _ => []) (Rpg.new n) (new13 n)) :=
    ⟨hX3.later (below_setRow ((Below.refl _ _).alloc (Nat.le_refl _) _) (Nat.le_refl _) _), BZ.out.setRow (new13 n), rc_new _, AL0.out, HZ0.out, FX0.out.1, FX0.out.2.1, hX3.below.size⟩
  clear hX3 X2 hb3
  go_upto_region 6 with (refine wpList_store_row rfl _ (.tmp 8) (.tmp 42) rfl w3.heap.size (new13 n) rfl rfl _ Tryz.zeroCells35 BZ.out (rpgInfo SZ.out) (by rw [zero13_size, SZ.out]) ON.out ?_)
  generalize hW3 : (w3.alloc _).setRow _ (new13 n) = W3 at *
  generalize w3.heap.size = gm at *
  generalize new13 (n : Int) = cs0 at *
  clear hW3 BZ
  have HN0 := Lib.hid FX0.out.2.2
  go_wp2_with fail
  go_loopw [7, 9] (fun pv iv wr => ∃ (i : Nat) (Z : Pz) (P : Pgr) (c : Int → List UInt8) (R : Rpg) (cs : Array Value), pv = .pointer (some ⟨Z.g, 0, none⟩) ∧ iv = .int .i64 (i : Int) ∧ i ≤ xs.length ∧ i ≤ 40 ∧ P.num ≤ i ∧ Hid (PyS w wr pd gm n Z P c R cs)) (fun _ iv _ => xs.length - (intOf iv).toNat)
  case atStart => exact ⟨0, Z, P0, _, _, cs0, rfl, rfl, by omega, by omega, by rw [HN0.out]; omega, S0⟩
  case round =>
    clear S0 AL0 FX0 HN0 SZ ON HZ0
    obtain ⟨i, Z, P, c, R, cs, rfl, rfl, hi, hi40, hnum, S⟩ := hrel
    have hsz := S.out.px.below.size
    have SDC := Lib.hid S.out.rc.size
    have BMR := Lib.hid S.out.bm
    have KPP : Hid (Kp P.D 1 n P.num P.last P.tag P.tb c) := by
      have h := S.out.px.pk.kp
      rw [S.out.pa, S.out.pn] at h
      exact h
    have hPD : pgNew P.D 1 n P.num P.last (P.tag, P.tb) = P.drop := by
      have h1 := S.out.pa
      have h2 := S.out.pn
      unfold pgNew Pgr.drop
      rw [h1, h2]
    have HPD := Lib.hid hPD
    have HSC := Lib.hid (still_crash S.out.px.pk.kp.mj.still [])
    clear hPD
    by_cases hgo : i < xs.length ∧ i < 40
    case neg =>
      by_cases hil : i < xs.length
      case' pos => have hil4 : ¬ i < 40 := fun h => hgo ⟨hil, h⟩
      all_goals
        clear hgo
        go_wp2_with fail
        refine (dcrash_dp S.out.px.dp S.out.px.pk.kp.mj.still.ok (S := fun _ => True) (l := []) Sl.nil (by simp) (by simp) (by rw [S.out.px.pk.kp.mj.still.pend]; simp) S.out.hg).mono ?_
        rintro e v1 ⟨rfl, h1, hd, hg1, hs⟩
        rw [HSC.out] at hd
        have D1 := Lib.hid hd
        have G1 := Lib.hid hg1
        have BM1 := Lib.hid (hs.blk S.out.px.dp.dk BMR.out (by decide) (by decide))
        clear hd hg1 hs
        go_wp2_with fail
        refine (px_open D1.out KPP.out S.out.px.num G1.out).mono ?_
        rintro e v2 ⟨Z2, rfl, hx, hz, hb2⟩
        rw [HPD.out] at hx
        have PX2 := Lib.hid hx
        have BM2 := Lib.hid (BM1.out.later hb2)
        clear hx hz hb2
        go_wp2_with fail
        refine wp_load_row _ (.tmp 8) rfl gm rfl _ cs _ _ BM2.out hu rfl (rpgInfo SDC.out) ?_
        go_wp2_with fail
        refine (rdrop13_any R cs v2 S.out.rc).mono ?_
        rintro e v3 ⟨es, rfl, hce, hb3⟩
        have PX3 := Lib.hid (PX2.out.later hb3)
        have HCE := Lib.hid hce
        clear hce hb3
        go_wp2_with fail
        refine (px_alike PX3.out S.out.al.drop HCE.out rfl).mono ?_
        rintro e v4 ⟨rfl, hb4⟩
        have PX4 := Lib.hid (PX3.out.later hb4)
        go_wp2_with fail
        go_ret
        exact ⟨rfl, PX4.out.below⟩
    obtain ⟨hil, hil4⟩ := hgo
    clear KPP HPD HSC BMR SDC
    obtain ⟨b, o, rfl, hbl, hcell⟩ := HA.out (by omega)
    obtain ⟨k0, k1, k2, k3, k4, k5⟩ := hcell i hil
    have old : ∀ p : Addr, p.block < w.heap.size → wr.cell? p = w.cell? p := fun p hp => S.out.px.below.cell hp
    have x0 := (old ⟨b, o + i * 6, none⟩ hbl).trans k0
    have x1 := (old ⟨b, o + i * 6 + 1, none⟩ hbl).trans k1
    have x2 := (old ⟨b, o + i * 6 + 2, none⟩ hbl).trans k2
    have x3 := (old ⟨b, o + i * 6 + 3, none⟩ hbl).trans k3
    have x4 := (old ⟨b, o + i * 6 + 4, none⟩ hbl).trans k4
    have x5 := (old ⟨b, o + i * 6 + 5, none⟩ hbl).trans k5
    have HXI := Lib.hid (HX.out _ (List.getElem_mem hil))
    clear hcell k0 k1 k2 k3 k4 k5 old
    generalize xs[i] = x at *
    go_wp2_with fail
    refine (few13_any w.heap.size x wr (HXI.out.2.2.2.2.2.later S.out.px.below) hsz).mono ?_
    rintro e w4 ⟨vl, rfl, hsv, hbl4⟩
    obtain ⟨A1, c1, rfl, -⟩ := hsv.at
    have S4 := Lib.hid (S.out.later hbl4)
    have IDI := Lib.hid HXI.out.2.1
    have TGU := Lib.hid HXI.out.2.2.2.1
    have SV := Lib.hid hsv
    have NSI := Lib.hid HXI.out.2.2.1
    have LI : Hid (∀ y ∈ x.left.take 60, InI y.1 ∧ InI y.2) := fun y hy => HXI.out.2.2.2.2.1 y (List.mem_of_mem_take hy)
    have LL : Hid ((x.left.take 60).length ≤ 1000000) := by rw [Hid, List.length_take]; omega
    have HB4 := Lib.hid S4.out.px.below
    clear hsv hbl4 hsz
    obtain ⟨kind, id, nst, tag, body0, left0, v0⟩ := x
    simp only at IDI TGU SV NSI LI LL x0 x1 x2 x3 x4 x5 ⊢
    have TL : Hid ((body0.take 2100).length ≤ 2100) := by rw [Hid, List.length_take]; omega
    generalize body0.take 2100 = t at *
    generalize left0.take 60 = l at *
    clear HXI x0 x1 x2 x3 x4 x5 S
    have S5 := Lib.hid (S4.out.later ((Below.refl w4.heap.size w4).alloc (Nat.le_refl _) (.cells #[.int .i64 kind, .int .i64 id, .int .i64 nst, .int .u64 (tag : Int), .string (st t), .slice A1 l.length c1] 54)))
    have BX := Lib.hid (Blk.new w4 54 #[.int .i64 kind, .int .i64 id, .int .i64 nst, .int .u64 (tag : Int), .string (st t), .slice A1 l.length c1])
    go_upto_region 10 with (fail)
    generalize hW : w4.alloc _ = W at *
    generalize w4.heap.size = gx at *
    clear hW S4
    have SCS := Lib.hid S5.out.rc.size
    have BMM := Lib.hid S5.out.bm
    go_wp2_with (first | (refine wpList_load_row rfl _ (.tmp 8) rfl gm rfl _ cs _ _ BMM.out hu rfl (rpgInfo SCS.out) ?_) | (refine wpList_load_row rfl _ (.tmp 10) rfl gx rfl _ _ _ _ BX.out hu6 rfl pactTy.2 ?_))
    refine (do13_any S5.out.px S5.out.rc kind id nst tag t A1 l.length c1 IDI.out (Nat.le_trans TL.out (by omega)) rfl).mono ?_
    rintro e w6 ⟨ds, ok, rfl, hcd, hx6, hok, ht6⟩
    obtain rfl := hok S5.out.al
    obtain ⟨f1, f2, f3⟩ := P.act_fix kind id t
    have S6 : Hid (PyB w w6 pd gm n Z (P.act kind id t) c (R.act kind id t) cs ds) := ⟨hx6, S5.out.px.blk ht6 BMM.out (by decide) (by decide) (by decide) (by decide), hcd, S5.out.al.act S5.out.px.pk kind id t, S5.out.hg, f1.trans S5.out.pa, f2.trans S5.out.pn, S5.out.gm⟩
    have BX6 := Lib.hid (S5.out.px.blk ht6 BX.out (by decide) (by decide) (by decide) (by decide))
    have hnum6 : (P.act kind id t).num ≤ i := by omega
    have HSD := Lib.hid hcd.size
    have H1D := Lib.hid hcd.one
    have HACT : Hid ((kind = 3 ∨ kind = 5) → P.act kind id t = P ∧ R.act kind id t = R) := fun h => by
      rcases h with rfl | rfl <;> exact ⟨by simp [Pgr.act], by simp [Rpg.act]⟩
    generalize P.act kind id t = P6 at *
    generalize R.act kind id t = R6 at *
    clear hok ht6 hx6 hcd f1 f2 f3 S5 BX BMM
    have BZ := Lib.hid (Blk.new w6 35 Tryz.zeroCells35)
    have hq7 : Below w6.heap.size w6 ((w6.alloc (.cells Tryz.zeroCells35 35)).setRow w6.heap.size ds) := below_setRow ((Below.refl _ _).alloc (Nat.le_refl _) _) (Nat.le_refl _) ds
    have S7 := Lib.hid (S6.out.later hq7)
    have BX7 := Lib.hid (BX6.out.later hq7)
    have BK7 := Lib.hid (BZ.out.setRow ds)
    clear hq7
    go_upto_region 11 with (refine wpList_store_row rfl _ (.tmp 11) (.tmp 63) rfl w6.heap.size ds rfl rfl _ Tryz.zeroCells35 BZ.out (rpgInfo HSD.out) (by rw [zero13_size, HSD.out]) H1D.out ?_)
    generalize hW7 : (w6.alloc _).setRow _ ds = w7 at *
    generalize w6.heap.size = gk at *
    clear hW7 BZ S6 BX6
    have BM7 := Lib.hid S7.out.bm
    have S8 := Lib.hid S7.out.put
    have BX8 := Lib.hid (BX7.out.farRow (blk_ne BX7.out BM7.out (by decide)) ds)
    go_upto_region 12 with (first | (refine wpList_load_row rfl _ (.tmp 11) rfl gk rfl _ ds _ _ BK7.out hu rfl (rpgInfo HSD.out) ?_) | (refine wpList_store_row rfl _ (.tmp 8) (.tmp 65) rfl gm ds rfl rfl _ cs BM7.out (rpgInfo HSD.out) (by rw [SCS.out, HSD.out]) H1D.out ?_))
    generalize hW8 : w7.setRow _ ds = w8 at *
    clear hW8 BM7 S7 BK7 BX7 SCS
    have BM8 := Lib.hid S8.out.bm
    have y0 : (w8).cell? ⟨gx, 0, none⟩ = some (.int .i64 kind) := BX8.out.cell 0
    have y1 : (w8).cell? ⟨gx, 1, none⟩ = some (.int .i64 id) := BX8.out.cell 1
    have y2 : (w8).cell? ⟨gx, 2, none⟩ = some (.int .i64 nst) := BX8.out.cell 2
    have y3 : (w8).cell? ⟨gx, 3, none⟩ = some (.int .u64 (tag : Int)) := BX8.out.cell 3
    have y4 : (w8).cell? ⟨gx, 4, none⟩ = some (.string (st t)) := BX8.out.cell 4
    have y5 : (w8).cell? ⟨gx, 5, none⟩ = some (.slice A1 l.length c1) := BX8.out.cell 5
    by_cases hk3 : kind = 3
    case neg =>
      go_wp2_with fail
      go_roundw
      case rel => exact ⟨i + 1, Z, P6, c, R6, ds, rfl, by go_num, by omega, by omega, by omega, S8⟩
      case measure => simp [intOf]; omega
    subst hk3
    have BMK := Lib.hid S8.out.bm
    obtain ⟨hc1, hc2⟩ := S8.out.al.cWhy S8.out.px.pk tag
    have HC1 := Lib.hid hc1
    have HC2 := Lib.hid hc2
    clear hc1 hc2
    go_wp2_with fail
    refine (px_steps S8.out.px tag nst TGU.out (by omega) (HTA.out.later S8.out.px.below) (HBI.out.later S8.out.px.below) H0.out NSI.out rfl).mono ?_
    rintro e w9 hst
    rcases hst with ⟨hnx, rfl, Z', hx, hg, hhg, ht⟩ | ⟨tt, D', Z', hnx, rfl, hx, hg, hhg, ht⟩ | ⟨tt, D', Z', hnx, rfl, hd, hhg, ht, hdo, hdp, hkp⟩
    · have BX9 := Lib.hid (S8.out.px.blk ht BX8.out (by decide) (by decide) (by decide) (by decide))
      have BM9 := Lib.hid (S8.out.px.blk ht BMK.out (by decide) (by decide) (by decide) (by decide))
      have PX9 := Lib.hid hx
      have HG := Lib.hid hg
      have HHG := Lib.hid hhg
      have HW := Lib.hid (HC1.out hnx)
      clear hx hg hhg ht hnx
      clear y0 y1 y2 y3 y4 y5
      have y0 : (w9).cell? ⟨gx, 0, none⟩ = some (.int .i64 3) := BX9.out.cell 0
      have y1 : (w9).cell? ⟨gx, 1, none⟩ = some (.int .i64 id) := BX9.out.cell 1
      have y2 : (w9).cell? ⟨gx, 2, none⟩ = some (.int .i64 nst) := BX9.out.cell 2
      have y3 : (w9).cell? ⟨gx, 3, none⟩ = some (.int .u64 (tag : Int)) := BX9.out.cell 3
      have y4 : (w9).cell? ⟨gx, 4, none⟩ = some (.string (st t)) := BX9.out.cell 4
      have y5 : (w9).cell? ⟨gx, 5, none⟩ = some (.slice A1 l.length c1) := BX9.out.cell 5
      go_wp2_with (refine wpList_load_row rfl _ (.tmp 8) rfl gm rfl _ ds _ _ BM9.out hu rfl (rpgInfo HSD.out) ?_)
      refine (rcommit13_any R6 ds tag w9 S8.out.rc (by rw [S8.out.places]; omega) (by rw [S8.out.places]; omega)).mono ?_
      rintro e w10 ⟨es, rfl, hce, hb10⟩
      rw [HW.out.1]
      rw [HW.out.2] at hce
      have HCE := Lib.hid hce
      have HSE := Lib.hid hce.size
      have H1E := Lib.hid hce.one
      have BZ := Lib.hid (Blk.new w10 35 Tryz.zeroCells35)
      have hq : Below w10.heap.size w10 ((w10.alloc (.cells Tryz.zeroCells35 35)).setRow w10.heap.size es) := below_setRow ((Below.refl _ _).alloc (Nat.le_refl _) _) (Nat.le_refl _) es
      have PX11 := Lib.hid ((PX9.out.later hb10).later hq)
      have BX11 := Lib.hid ((BX9.out.later hb10).later hq)
      have BM11 := Lib.hid ((BM9.out.later hb10).later hq)
      have BC11 := Lib.hid (BZ.out.setRow es)
      clear hq hb10 hce y0 y1 y2 y3 y4 y5
      go_upto_region 17 with (refine wpList_store_row rfl _ (.tmp 15) (.tmp 85) rfl w10.heap.size es rfl rfl _ Tryz.zeroCells35 BZ.out (rpgInfo HSE.out) (by rw [zero13_size, HSE.out]) H1E.out ?_)
      generalize hW11 : (w10.alloc _).setRow _ es = w11 at *
      generalize w10.heap.size = gc at *
      clear hW11 BZ
      have S12 : Hid (PyS w w11 pd gm n Z' P6 c R6 ds) := ⟨PX11.out, BM11.out, S8.out.rc, S8.out.al, HHG.out.trans S8.out.hg, S8.out.pa, S8.out.pn, S8.out.gm⟩
      go_wp2_with fail
      go_roundw
      case rel => exact ⟨i + 1, Z', P6, c, R6, ds, by rw [HG.out], by go_num, by omega, by omega, by omega, S12⟩
      case measure => simp [intOf]; omega
    · have BX9 := Lib.hid (S8.out.px.blk ht BX8.out (by decide) (by decide) (by decide) (by decide))
      have BM9 := Lib.hid (S8.out.px.blk ht BMK.out (by decide) (by decide) (by decide) (by decide))
      have PX9 := Lib.hid hx
      have HG := Lib.hid hg
      have HHG := Lib.hid hhg
      have HW := Lib.hid (HC2.out (by rw [hnx]; simp))
      have AL9 := Lib.hid (S8.out.al.kept S8.out.px.pk hnx D' (P6.num + 1) (1 - P6.last) tag)
      have hnum12 : (⟨D', P6.a, P6.n, P6.num + 1, 1 - P6.last, tag, tt, fun _ => none, fun _ => false⟩ : Pgr).num ≤ i + 1 := by simp only; omega
      have FX12 : Hid ((⟨D', P6.a, P6.n, P6.num + 1, 1 - P6.last, tag, tt, fun _ => none, fun _ => false⟩ : Pgr).a = 1 ∧ (⟨D', P6.a, P6.n, P6.num + 1, 1 - P6.last, tag, tt, fun _ => none, fun _ => false⟩ : Pgr).n = n) := ⟨S8.out.pa, S8.out.pn⟩
      generalize (⟨D', P6.a, P6.n, P6.num + 1, 1 - P6.last, tag, tt, fun _ => none, fun _ => false⟩ : Pgr) = P12 at *
      generalize newC P6 c = c12 at *
      clear hx hg hhg ht hnx
      clear y0 y1 y2 y3 y4 y5
      have y0 : (w9).cell? ⟨gx, 0, none⟩ = some (.int .i64 3) := BX9.out.cell 0
      have y1 : (w9).cell? ⟨gx, 1, none⟩ = some (.int .i64 id) := BX9.out.cell 1
      have y2 : (w9).cell? ⟨gx, 2, none⟩ = some (.int .i64 nst) := BX9.out.cell 2
      have y3 : (w9).cell? ⟨gx, 3, none⟩ = some (.int .u64 (tag : Int)) := BX9.out.cell 3
      have y4 : (w9).cell? ⟨gx, 4, none⟩ = some (.string (st t)) := BX9.out.cell 4
      have y5 : (w9).cell? ⟨gx, 5, none⟩ = some (.slice A1 l.length c1) := BX9.out.cell 5
      go_wp2_with (refine wpList_load_row rfl _ (.tmp 8) rfl gm rfl _ ds _ _ BM9.out hu rfl (rpgInfo HSD.out) ?_)
      refine (rcommit13_any R6 ds tag w9 S8.out.rc (by rw [S8.out.places]; omega) (by rw [S8.out.places]; omega)).mono ?_
      rintro e w10 ⟨es, rfl, hce, hb10⟩
      rw [HW.out.1]
      rw [HW.out.2] at hce
      have HCE := Lib.hid hce
      have HSE := Lib.hid hce.size
      have H1E := Lib.hid hce.one
      have BZ := Lib.hid (Blk.new w10 35 Tryz.zeroCells35)
      have hq : Below w10.heap.size w10 ((w10.alloc (.cells Tryz.zeroCells35 35)).setRow w10.heap.size es) := below_setRow ((Below.refl _ _).alloc (Nat.le_refl _) _) (Nat.le_refl _) es
      have PX11 := Lib.hid ((PX9.out.later hb10).later hq)
      have BX11 := Lib.hid ((BX9.out.later hb10).later hq)
      have BM11 := Lib.hid ((BM9.out.later hb10).later hq)
      have BC11 := Lib.hid (BZ.out.setRow es)
      clear hq hb10 hce y0 y1 y2 y3 y4 y5
      go_upto_region 17 with (refine wpList_store_row rfl _ (.tmp 15) (.tmp 85) rfl w10.heap.size es rfl rfl _ Tryz.zeroCells35 BZ.out (rpgInfo HSE.out) (by rw [zero13_size, HSE.out]) H1E.out ?_)
      generalize hW11 : (w10.alloc _).setRow _ es = w11 at *
      generalize w10.heap.size = gc at *
      clear hW11 BZ
      have SB : PyB w w11 pd gm n Z' P12 c12 (R6.kept tag) ds es := ⟨PX11.out, BM11.out, HCE.out, AL9.out, HHG.out.trans S8.out.hg, FX12.out.1, FX12.out.2, S8.out.gm⟩
      have S12 := Lib.hid SB.put
      generalize R6.kept tag = R12 at *
      clear SB
      go_wp2_with (first | (refine wpList_load_row rfl _ (.tmp 15) rfl gc rfl _ es _ _ BC11.out hu rfl (rpgInfo HSE.out) ?_) | (refine wpList_store_row rfl _ (.tmp 8) (.tmp 100) rfl gm es rfl rfl _ ds BM11.out (rpgInfo HSE.out) (by rw [HSD.out, HSE.out]) H1E.out ?_))
      go_roundw
      case rel => exact ⟨i + 1, Z', P12, c12, R12, es, by rw [HG.out], by go_num, by omega, by omega, hnum12, S12⟩
      case measure => simp [intOf]; omega
    · have BX9 := Lib.hid (S8.out.px.blk ht BX8.out (by decide) (by decide) (by decide) (by decide))
      have BM9 := Lib.hid (S8.out.px.blk ht BMK.out (by decide) (by decide) (by decide) (by decide))
      have D9 := Lib.hid hd
      have HHG := Lib.hid (hhg.trans S8.out.hg)
      have HW := Lib.hid (HC2.out (by rw [hnx]; simp))
      have HDO := Lib.hid hdo
      have HDP : Hid (D'.pend.length ≤ 1000000) := Nat.le_trans hdp (by omega)
      have HKP : Hid (Kp (D'.crash l) 1 n P6.num P6.last P6.tag P6.tb c ∨ Kp (D'.crash l) 1 n (P6.num + 1) (1 - P6.last) tag tt (newC P6 c)) := by
        have h := hkp l
        rw [S8.out.pa, S8.out.pn] at h
        exact h
      have AK : Hid (∀ D'' : Dsk, Al (pgNew D'' 1 n (P6.num + 1) (1 - P6.last) (tag, tt)) (newC P6 c) (R6.kept tag)) := fun D'' => by
        have h := S8.out.al.kept S8.out.px.pk hnx D'' (P6.num + 1) (1 - P6.last) tag
        rw [S8.out.pa, S8.out.pn] at h
        exact h
      have AO : Hid (∀ D'' : Dsk, Al (pgNew D'' 1 n P6.num P6.last (P6.tag, P6.tb)) c R6.drop) := fun D'' => S8.out.al.drop.moved D'' 1 S8.out.pn _ _
      have RDP : Hid (R6.drop.places = (n : Int)) := S8.out.places
      clear hd hhg ht hnx hdo hdp hkp
      clear y0 y1 y2 y3 y4 y5
      have y0 : (w9).cell? ⟨gx, 0, none⟩ = some (.int .i64 3) := BX9.out.cell 0
      have y1 : (w9).cell? ⟨gx, 1, none⟩ = some (.int .i64 id) := BX9.out.cell 1
      have y2 : (w9).cell? ⟨gx, 2, none⟩ = some (.int .i64 nst) := BX9.out.cell 2
      have y3 : (w9).cell? ⟨gx, 3, none⟩ = some (.int .u64 (tag : Int)) := BX9.out.cell 3
      have y4 : (w9).cell? ⟨gx, 4, none⟩ = some (.string (st t)) := BX9.out.cell 4
      have y5 : (w9).cell? ⟨gx, 5, none⟩ = some (.slice A1 l.length c1) := BX9.out.cell 5
      go_wp2_with (refine wpList_load_row rfl _ (.tmp 8) rfl gm rfl _ ds _ _ BM9.out hu rfl (rpgInfo HSD.out) ?_)
      refine (rcommit13_any R6 ds tag w9 S8.out.rc (by rw [S8.out.places]; omega) (by rw [S8.out.places]; omega)).mono ?_
      rintro e w10 ⟨es, rfl, hce, hb10⟩
      rw [HW.out.1]
      rw [HW.out.2] at hce
      have HCE := Lib.hid hce
      have HSE := Lib.hid hce.size
      have H1E := Lib.hid hce.one
      have BZ := Lib.hid (Blk.new w10 35 Tryz.zeroCells35)
      have hq : Below w10.heap.size w10 ((w10.alloc (.cells Tryz.zeroCells35 35)).setRow w10.heap.size es) := below_setRow ((Below.refl _ _).alloc (Nat.le_refl _) _) (Nat.le_refl _) es
      have PX11 := Lib.hid ((D9.out.later hb10).later hq)
      have BX11 := Lib.hid ((BX9.out.later hb10).later hq)
      have BM11 := Lib.hid ((BM9.out.later hb10).later hq)
      have BC11 := Lib.hid (BZ.out.setRow es)
      clear hq hb10 hce y0 y1 y2 y3 y4 y5
      go_upto_region 17 with (refine wpList_store_row rfl _ (.tmp 15) (.tmp 85) rfl w10.heap.size es rfl rfl _ Tryz.zeroCells35 BZ.out (rpgInfo HSE.out) (by rw [zero13_size, HSE.out]) H1E.out ?_)
      generalize hW11 : (w10.alloc _).setRow _ es = w11 at *
      generalize w10.heap.size = gc at *
      clear hW11 BZ
      have SV11 := Lib.hid (Sv.again SV.out HB4.out PX11.out.below)
      have y0 : (w11).cell? ⟨gx, 0, none⟩ = some (.int .i64 3) := BX11.out.cell 0
      have y1 : (w11).cell? ⟨gx, 1, none⟩ = some (.int .i64 id) := BX11.out.cell 1
      have y2 : (w11).cell? ⟨gx, 2, none⟩ = some (.int .i64 nst) := BX11.out.cell 2
      have y3 : (w11).cell? ⟨gx, 3, none⟩ = some (.int .u64 (tag : Int)) := BX11.out.cell 3
      have y4 : (w11).cell? ⟨gx, 4, none⟩ = some (.string (st t)) := BX11.out.cell 4
      have y5 : (w11).cell? ⟨gx, 5, none⟩ = some (.slice A1 l.length c1) := BX11.out.cell 5
      go_wp2_with fail
      refine (dcrash_dp PX11.out HDO.out SV11.out LI.out LL.out HDP.out HHG.out).mono ?_
      rintro e w12 ⟨rfl, h12, hd, hg12, hs⟩
      have D12 := Lib.hid hd
      have G12 := Lib.hid hg12
      have BM12 := Lib.hid (hs.blk PX11.out.dk BM11.out (by decide) (by decide))
      have BC12 := Lib.hid (hs.blk PX11.out.dk BC11.out (by decide) (by decide))
      have HP6 : Hid (P6.num ≤ 100000 ∧ P6.num + 1 ≤ 100000) := by rw [Hid]; omega
      clear hd hg12 hs y0 y1 y2 y3 y4 y5
      generalize D'.crash l = DC at *
      rcases HKP.out with ko | kn
      · have KO := Lib.hid ko
        clear ko
        go_wp2_with fail
        refine (px_open D12.out KO.out HP6.out.1 G12.out).mono ?_
        rintro e w13 ⟨Z2, rfl, hx, hz, hb13⟩
        have PX13 := Lib.hid hx
        have HZ2 : Hid (Z2.h.g = pd) := by rw [Hid, hz]; exact G12.out
        have BM13 := Lib.hid (BM12.out.later hb13)
        clear hx hz hb13
        have A13 := Lib.hid (AO.out DC)
        have FX13 : Hid ((pgNew DC 1 n P6.num P6.last (P6.tag, P6.tb)).a = 1 ∧ (pgNew DC 1 n P6.num P6.last (P6.tag, P6.tb)).n = n) := ⟨rfl, rfl⟩
        have hnum13 : (pgNew DC 1 n P6.num P6.last (P6.tag, P6.tb)).num ≤ i + 1 := by show P6.num ≤ i + 1; omega
        generalize pgNew DC 1 n P6.num P6.last (P6.tag, P6.tb) = P13 at *
        go_wp2_with (refine wpList_load_row rfl _ (.tmp 8) rfl gm rfl _ ds _ _ BM13.out hu rfl (rpgInfo HSD.out) ?_)
        refine (rdrop13_any R6 ds w13 S8.out.rc).mono ?_
        rintro e w14 ⟨fs, rfl, hcf, hb14⟩
        have HCF := Lib.hid hcf
        have HSF := Lib.hid hcf.size
        have H1F := Lib.hid hcf.one
        have BZ := Lib.hid (Blk.new w14 35 Tryz.zeroCells35)
        have hq : Below w14.heap.size w14 ((w14.alloc (.cells Tryz.zeroCells35 35)).setRow w14.heap.size fs) := below_setRow ((Below.refl _ _).alloc (Nat.le_refl _) _) (Nat.le_refl _) fs
        have PX15 := Lib.hid ((PX13.out.later hb14).later hq)
        have BM15 := Lib.hid ((BM13.out.later hb14).later hq)
        have BO15 := Lib.hid (BZ.out.setRow fs)
        clear hq hb14 hcf
        go_upto_region 27 with (refine wpList_store_row rfl _ (.tmp 19) (.tmp 118) rfl w14.heap.size fs rfl rfl _ Tryz.zeroCells35 BZ.out (rpgInfo HSF.out) (by rw [zero13_size, HSF.out]) H1F.out ?_)
        generalize hW15 : (w14.alloc _).setRow _ fs = w15 at *
        generalize w14.heap.size = go at *
        clear hW15 BZ
        go_wp2_with (refine wpList_load_row rfl _ (.tmp 19) rfl go rfl _ fs _ _ BO15.out hu rfl (rpgInfo HSF.out) ?_)
        refine (px_alike PX15.out A13.out HCF.out rfl).mono ?_
        rintro e w16 ⟨rfl, hb16⟩
        have BM16 := Lib.hid (BM15.out.later hb16)
        have BO16 := Lib.hid (BO15.out.later hb16)
        have SB : PyB w w16 pd gm n Z2 P13 c R6.drop ds fs := ⟨PX15.out.later hb16, BM16.out, HCF.out, A13.out, HZ2.out, FX13.out.1, FX13.out.2, S8.out.gm⟩
        have S17 := Lib.hid SB.put
        generalize R6.drop = R13 at *
        clear SB hb16
        go_wp2_with (first | (refine wpList_load_row rfl _ (.tmp 19) rfl go rfl _ fs _ _ BO16.out hu rfl (rpgInfo HSF.out) ?_) | (refine wpList_store_row rfl _ (.tmp 8) (.tmp 122) rfl gm fs rfl rfl _ ds BM16.out (rpgInfo HSF.out) (by rw [HSD.out, HSF.out]) H1F.out ?_))
        go_roundw
        case rel => exact ⟨i + 1, Z2, P13, c, R13, fs, rfl, by go_num, by omega, by omega, hnum13, S17⟩
        case measure => simp [intOf]; omega
      · have KN := Lib.hid kn
        clear kn
        go_wp2_with fail
        refine (px_open D12.out KN.out HP6.out.2 G12.out).mono ?_
        rintro e w13 ⟨Z2, rfl, hx, hz, hb13⟩
        have PX13 := Lib.hid hx
        have HZ2 : Hid (Z2.h.g = pd) := by rw [Hid, hz]; exact G12.out
        have BM13 := Lib.hid (BM12.out.later hb13)
        have BC13 := Lib.hid (BC12.out.later hb13)
        clear hx hz hb13
        have A13 := Lib.hid (AK.out DC)
        have AX13 : Hid (Alk (pgNew DC 1 n (P6.num + 1) (1 - P6.last) (tag, tt)) (newC P6 c) R6.drop → Al (pgNew DC 1 n (P6.num + 1) (1 - P6.last) (tag, tt)) (newC P6 c) R6.drop) := fun h => h.al RDP.out
        have FX13 : Hid ((pgNew DC 1 n (P6.num + 1) (1 - P6.last) (tag, tt)).a = 1 ∧ (pgNew DC 1 n (P6.num + 1) (1 - P6.last) (tag, tt)).n = n) := ⟨rfl, rfl⟩
        have hnum13 : (pgNew DC 1 n (P6.num + 1) (1 - P6.last) (tag, tt)).num ≤ i + 1 := by show P6.num + 1 ≤ i + 1; omega
        generalize pgNew DC 1 n (P6.num + 1) (1 - P6.last) (tag, tt) = P13 at *
        generalize newC P6 c = c13 at *
        go_wp2_with (refine wpList_load_row rfl _ (.tmp 8) rfl gm rfl _ ds _ _ BM13.out hu rfl (rpgInfo HSD.out) ?_)
        refine (rdrop13_any R6 ds w13 S8.out.rc).mono ?_
        rintro e w14 ⟨fs, rfl, hcf, hb14⟩
        have HCF := Lib.hid hcf
        have HSF := Lib.hid hcf.size
        have H1F := Lib.hid hcf.one
        have BZ := Lib.hid (Blk.new w14 35 Tryz.zeroCells35)
        have hq : Below w14.heap.size w14 ((w14.alloc (.cells Tryz.zeroCells35 35)).setRow w14.heap.size fs) := below_setRow ((Below.refl _ _).alloc (Nat.le_refl _) _) (Nat.le_refl _) fs
        have PX15 := Lib.hid ((PX13.out.later hb14).later hq)
        have BM15 := Lib.hid ((BM13.out.later hb14).later hq)
        have BC15 := Lib.hid ((BC13.out.later hb14).later hq)
        have BO15 := Lib.hid (BZ.out.setRow fs)
        clear hq hb14 hcf
        go_upto_region 27 with (refine wpList_store_row rfl _ (.tmp 19) (.tmp 118) rfl w14.heap.size fs rfl rfl _ Tryz.zeroCells35 BZ.out (rpgInfo HSF.out) (by rw [zero13_size, HSF.out]) H1F.out ?_)
        generalize hW15 : (w14.alloc _).setRow _ fs = w15 at *
        generalize w14.heap.size = go at *
        clear hW15 BZ
        go_wp2_with (refine wpList_load_row rfl _ (.tmp 19) rfl go rfl _ fs _ _ BO15.out hu rfl (rpgInfo HSF.out) ?_)
        refine (px_alikeb PX15.out HCF.out rfl).mono ?_
        rintro e w16 ⟨ok2, rfl, hok2, hb16⟩
        have HOK2 := Lib.hid hok2
        have BM16 := Lib.hid (BM15.out.later hb16)
        have BO16 := Lib.hid (BO15.out.later hb16)
        have BC16 := Lib.hid (BC15.out.later hb16)
        have PX16 := Lib.hid (PX15.out.later hb16)
        clear hok2 hb16
        cases ok2 with
        | true =>
          have SB : PyB w w16 pd gm n Z2 P13 c13 R6.drop ds fs := ⟨PX16.out, BM16.out, HCF.out, AX13.out (HOK2.out.1 rfl), HZ2.out, FX13.out.1, FX13.out.2, S8.out.gm⟩
          have S17 := Lib.hid SB.put
          generalize R6.drop = R13 at *
          clear SB
          go_wp2_with (first | (refine wpList_load_row rfl _ (.tmp 19) rfl go rfl _ fs _ _ BO16.out hu rfl (rpgInfo HSF.out) ?_) | (refine wpList_store_row rfl _ (.tmp 8) (.tmp 122) rfl gm fs rfl rfl _ ds BM16.out (rpgInfo HSF.out) (by rw [HSD.out, HSF.out]) H1F.out ?_))
          go_roundw
          case rel => exact ⟨i + 1, Z2, P13, c13, R13, fs, rfl, by go_num, by omega, by omega, hnum13, S17⟩
          case measure => simp [intOf]; omega
        | false =>
          go_wp2_with (refine wpList_load_row rfl _ (.tmp 15) rfl gc rfl _ es _ _ BC16.out hu rfl (rpgInfo HSE.out) ?_)
          refine (px_alike PX16.out A13.out HCE.out rfl).mono ?_
          rintro e w17 ⟨rfl, hb17⟩
          have BM17 := Lib.hid (BM16.out.later hb17)
          have BC17 := Lib.hid (BC16.out.later hb17)
          have SB : PyB w w17 pd gm n Z2 P13 c13 (R6.kept tag) ds es := ⟨PX16.out.later hb17, BM17.out, HCE.out, A13.out, HZ2.out, FX13.out.1, FX13.out.2, S8.out.gm⟩
          have S18 := Lib.hid SB.put
          generalize R6.kept tag = R13 at *
          clear SB hb17
          go_wp2_with (first | (refine wpList_load_row rfl _ (.tmp 15) rfl gc rfl _ es _ _ BC17.out hu rfl (rpgInfo HSE.out) ?_) | (refine wpList_store_row rfl _ (.tmp 8) (.tmp 126) rfl gm es rfl rfl _ ds BM17.out (rpgInfo HSE.out) (by rw [HSD.out, HSE.out]) H1E.out ?_))
          go_roundw
          case rel => exact ⟨i + 1, Z2, P13, c13, R13, es, rfl, by go_num, by omega, by omega, hnum13, S18⟩
          case measure => simp [intOf]; omega
end Go.Proofs.YtildohndbeagaaaGreatDoor
