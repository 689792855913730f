/- What the proof of PagerLeast needs, part 27. -/
import Derived.Test.YtildohndbeagaaaGreatDoorPagerLeastJ2
import Derived.Test.YtildohndbeagaaaGreatDoorPagerLeastJ26
import Derived.StillTailTactics
import Derived.BigQuiet
import Derived.Deep.QuietTactic

namespace Go.Proofs.YtildohndbeagaaaGreatDoor
open Go Go.RowKit
set_option linter.unusedVariables false

def PsPost (Z : Pz) (P : Pgr) (tag : Nat) (k : Int) (w : World) (e : Ending) (w' : World) : Prop :=
  e = .returned (.tuple #[.bool (P.steps tag k).done, .int .i64 ((P.steps tag k).err : Nat)]) ∧ ∃ Z', Pg w' Z' (P.steps tag k).P ∧ Ptp Z w Z' w'
theorem ps_fin {Z Z' : Pz} {P : Pgr} {tag : Nat} {k : Int} {w w' : World} {s : PgSt} {ok : Bool} {ev : Int} (hs : P.steps tag k = s) (hp : Pg w' Z' s.P) (ht : Ptp Z w Z' w') (ho : ok = s.done) (he : ev = (s.err : Nat)) : PsPost Z P tag k w (.returned (.tuple #[.bool ok, .int .i64 ev])) w' := by
  unfold PsPost
  rw [hs, ho, he]
  exact ⟨rfl, Z', hp, ht⟩
theorem pageW_cons (x : Int) (b : List UInt8) (k m : Nat) : pageW x b k (m + 1) = (x + (k : Int), chunk b k) :: pageW x b (k + 1) m := by
  unfold pageW
  rw [List.range'_succ, List.map_cons]
theorem stepW_cons (D : Dsk) (s : Int) (x : Int) (b : List UInt8) (r : List (Int × List UInt8)) : stepW D s ((x, b) :: r) = if decI s < 0 then (D, decI s, some 0) else if D.why x b = 0 then stepW (D.write x b) (decI s) r else (D, decI s, some (D.why x b)) := rfl

/-- The keys that are gone through lie where nothing turns. -/
structure PlSt (a b : Nat) (wr : World) (Z' : Pz) (v : Value) (n : Nat) (ids : List Nat) : Prop where
  sl : Sl (fun z => a ≤ z ∧ z < b) wr 1 v n (iV ids)
  size : b ≤ wr.heap.size
  zone : ∀ z, Z'.h.has z → z < a ∨ b ≤ z
section
variable {a b n : Nat} {wr w' : World} {Z' : Pz} {v : Value} {ids : List Nat}
theorem PlSt.later (p : PlSt a b wr Z' v n ids) (hb : Below wr.heap.size wr w') : PlSt a b w' Z' v n ids :=
  ⟨p.sl.below hb (fun z hz => Nat.lt_of_lt_of_le hz.2 p.size), Nat.le_trans p.size hb.size, p.zone⟩
theorem PlSt.dec (p : PlSt a b wr Z' v n ids) {gk : Nat} (hg : gk < a) (u : Value) : PlSt a b (wr.setCell ⟨gk, 0, none⟩ u) Z' v n ids :=
  ⟨p.sl.setCell (fun h => by have := h.1; simp only at this; omega) u, by simpa using p.size, p.zone⟩
theorem PlSt.stp (p : PlSt a b wr Z' v n ids) {h' : Zn} (hs : Stp Z'.h wr h' w') : PlSt a b w' { Z' with h := h' } v n ids := by
  refine ⟨p.sl.keep fun z o hz => World.cell?_of_block (hs.turn.block z (Nat.lt_of_lt_of_le hz.2 p.size) fun e => ?_), Nat.le_trans p.size hs.turn.size, fun z hz => ?_⟩
  · rcases p.zone z e with h | h
    · have := hz.1; omega
    · have := hz.2; omega
  · rcases hs.has z hz with h | h
    · exact p.zone z h
    · exact .inr (Nat.le_trans p.size h)
end
/-- The tag and the table are put anew. -/
theorem Pg.setTbl {w : World} {Z : Pz} {P : Pgr} {bo : Nat} {t : TF} (p : Pg w Z P) (hb : Tbl w bo t) (hn : ¬ Z.has bo) (n : Nat) :
    Pg ((w.setCell ⟨Z.g, 4, none⟩ (.int .u64 (n : Int))).setCell ⟨Z.g, 5, none⟩ (.map (some bo))) { Z with bt := bo } { P with tag := n, tb := t } ∧ w.grownBy ((w.setCell ⟨Z.g, 4, none⟩ (.int .u64 (n : Int))).setCell ⟨Z.g, 5, none⟩ (.map (some bo))) (some Z.g) := by
  have p1 := p.setTag n
  have g1 := grown_cell (w := w) (g := Z.g) (i := 4) (.int .u64 (n : Int))
  have g2 := grown_cell (w := w.setCell ⟨Z.g, 4, none⟩ (.int .u64 (n : Int))) (g := Z.g) (i := 5) (.map (some bo))
  have hk := kind_blk p.blk
  have hne : bo ≠ Z.g := fun e => hn (.inl e)
  have t1 : Tbl (w.setCell ⟨Z.g, 4, none⟩ (.int .u64 (n : Int))) bo t := ⟨hb.in90, hb.mp.other hne g1⟩
  have t2 : Tbl ((w.setCell ⟨Z.g, 4, none⟩ (.int .u64 (n : Int))).setCell ⟨Z.g, 5, none⟩ (.map (some bo))) bo t := ⟨hb.in90, t1.mp.other hne g2⟩
  have hk1 := kind_blk p1.blk
  have hmap : ∀ {b : Nat}, kindAt (w.setCell ⟨Z.g, 4, none⟩ (.int .u64 (n : Int))) b = some none → b ≠ Z.g := fun hb e => by
    subst e
    rw [hk1] at hb
    cases hb
  refine ⟨⟨p1.dk.other hk1 (by decide) g2, ⟨p1.mt.blk.grown g2 fun e => ?_⟩, p1.blk.put 5 (.map (some bo)), t2, ⟨p1.wr.in90, p1.wr.mp.other (hmap p1.wr.kind) (by rw [hk1]; decide) g2⟩, ⟨p1.gn.in90, p1.gn.mp.other (hmap p1.gn.kind) g2⟩, fun e => hn (.inr (.inr (.inr (.inl e)))), fun e => hn (.inr (.inr (.inr (.inr (.inl e))))), p.n3, fun e => hn (.inr (.inr (.inr (.inr (.inr e))))), p.m2, p.m3⟩, grown_tr g1 g2⟩
  injection e with e
  have := kind_blk p1.mt.blk
  rw [← e, hk1] at this
  revert this
  decide
theorem Ptp.setTbl {w wr w' : World} {Z Z1 : Pz} {bo : Nat} (h : Ptp Z w Z1 wr) (hg : wr.grownBy w' (some Z1.g)) (hb : w.heap.size ≤ bo) : Ptp Z w { Z1 with bt := bo } w' := by
  have h1 := h.grow hg (h.has _ (.inl rfl))
  refine ⟨h1.g, h1.hg, h1.turn, fun b hb' => ?_⟩
  rcases hb' with e | e | e | e | e | e
  · exact h1.has b (.inl e)
  · exact h1.has b (.inr (.inl e))
  · exact .inr (by simp only at e; omega)
  · exact h1.has b (.inr (.inr (.inr (.inl e))))
  · exact h1.has b (.inr (.inr (.inr (.inr (.inl e)))))
  · exact h1.has b (.inr (.inr (.inr (.inr (.inr e)))))

set_option maxHeartbeats 8000000 in
set_option maxRecDepth 100000 in
theorem psteps_any (Z : Pz) (P : Pgr) (tag : Nat) (k : Int) (w : World) (hT : TabOk w) (hB : BitsOk w) (hp : Pg w Z P) (hok : P.D.Ok) (h2 : 2 ≤ P.n) (h256 : P.n ≤ 256) (htb : TbOk P.n P.tb) (hwl : ∀ x b, P.wr x = some b → b.length ≤ 2048) (ha0 : 0 ≤ P.a) (ha1 : P.a ≤ 65534)
    (hl0 : 0 ≤ P.last) (hl1 : P.last ≤ 1) (hnum : P.num < U64) (htag : tag < U64) (hk : InI k) (hz0 : ¬ Z.has 0) (hwrs : ∀ p ∈ P.D.pend, ∃ a b, p = .wr a b) (hpe : P.D.pend.length ≤ 100000) :
    Calls Tryz.prog 25 #[.pointer (some ⟨Z.g, 0, none⟩), .int .u64 (tag : Int), .int .i64 k] w (PsPost Z P tag k w) := by
  have HP := Lib.hid hp
  have HT := Lib.hid hT
  have HB := Lib.hid hB
  have HTB := Lib.hid htb
  have HWL := Lib.hid hwl
  have HOK := Lib.hid hok
  have HNUM := Lib.hid hnum
  have HTAG := Lib.hid htag
  have HKI := Lib.hid hk
  have HWRS := Lib.hid hwrs
  have q0 : Below w.heap.size w (w.alloc (.cells #[.int .i64 k] 3)) := (Below.refl _ _).alloc (Nat.le_refl _) _
  have HP0 := Lib.hid (HP.out.later q0)
  have B0 := Lib.hid (Blk.new w 3 #[.int .i64 k])
  have Q0 := Lib.hid q0
  have hmf := run_makeFunc Tryz.prog
  have E0 : Hid ((w.alloc (.cells #[.int .i64 k] 3)).heap.size = w.heap.size + 1) := by simp [Hid]
  have HBX : Hid (∀ w', Turn Z.has w w' → BitsOk w') := fun w' ht => fun i hi => (World.cell?_of_block (ht.block 0 HB.out.pos hz0)).trans (HB.out i hi)
  clear hp hT hB htb hwl hok hnum htag hk hwrs q0
  go_enter Tryz.func25, Tryz.ntmps25
  go_wp2_with fail
  refine (pnext_any Z P _ (HT.out.later Q0.out) HP0.out h2 h256 HTB.out HWL.out).mono ?_
  rintro e w1 ⟨hc, q1, hk1⟩
  have Q1 := Lib.hid (Q0.out.trans (q1.mono (by rw [E0.out]; omega)))
  have HP1 := Lib.hid (HP.out.later Q1.out)
  have B1 := Lib.hid (B0.out.later q1)
  have K1 : Hid (kindAt w1 (w.heap.size + 1) = some (some 145)) := by rw [E0.out] at hk1; exact hk1
  rcases hc with ⟨t, bo, hnx, rfl, htb1, hbo⟩ | ⟨hnx, rfl⟩
  case inr =>
    have HS : Hid (P.steps tag k = ⟨P, false, 133⟩) := by unfold Pgr.steps; rw [Hid, hnx]
    clear hnx q1 hk1
    go_wp2_with fail
    go_ret2
    exact ps_fin HS.out HP1.out (Ptp.below Q1.out) rfl rfl
  have HS : Hid (P.steps tag k = P.steps1 t tag (stepW P.D k (wrL P.a t P.wr (idsOf P.wr)))) := by unfold Pgr.steps; rw [Hid, hnx]
  have HNX := Lib.hid (next_ok HTB.out HP.out.wr.in90 HWL.out hnx)
  have TB1 := Lib.hid htb1
  have HBO : Hid (w.heap.size ≤ bo) := by rw [E0.out] at hbo; rw [Hid]; omega
  have HBN : Hid (¬ Z.has bo) := fun e => by have := HP.out.lt e; have := HBO.out; omega
  have PS1 : Hid (PsSt w w1 Z Z P P.D w.heap.size k bo t 0) := ⟨HP1.out, Ptp.below Q1.out, B1.out, K1.out, TB1.out, Nat.le_refl _, HBO.out, HBN.out, HOK.out, HWRS.out, HKI.out, Nat.le_refl _⟩
  have hgkl : w.heap.size < w1.heap.size := B1.out.lt
  clear hnx htb1 hbo q1 hk1 HP1 B1 K1 TB1 HBN Q0 HP0 B0 E0 Q1
  have d6 : w1.cell? ⟨Z.g, 6, none⟩ = some (.map (some Z.bw)) := PS1.out.pg.blk.cell 6
  go_wp2_with fail
  refine (keysW_any Z.bw w1).mono ?_
  rintro e w2 ⟨rfl, rfl⟩
  have qa : Below w1.heap.size w1 (w1.alloc (.cells #[.map (some Z.bw)] 71)) := (Below.refl _ _).alloc (Nat.le_refl _) _
  have PS2 := Lib.hid (PS1.out.later qa)
  have BK := Lib.hid (Blk.new w1 71 #[.map (some Z.bw)])
  obtain ⟨mw, hmw, hrw⟩ := PS2.out.pg.wr.mp
  have HMW := Lib.hid hmw
  have HRW := Lib.hid hrw
  clear d6 qa PS1 hmw hrw
  generalize hW2 : w1.alloc _ = w2 at *
  clear hW2
  go_wp2_with fail
  refine (sortedW_any Z.bw w1.heap.size _ w2 HMW.out (fun y hy => (HRW.out y hy).some_iff) PS2.out.pg.wr.in90 BK.out).mono ?_
  rintro e w5 ⟨A5, c5, rfl, hown5, q5⟩
  have PS5 := Lib.hid (PS2.out.later q5)
  have SL5 := Lib.hid (Sl.of_own (by omega) hown5)
  have H52 := Lib.hid q5.size
  have HW5 := Lib.hid (Nat.le_refl w5.heap.size)
  have PL5 : Hid (PlSt w2.heap.size w5.heap.size w5 Z (.slice A5 (idsOf P.wr).length c5) (idsOf P.wr).length (idsOf P.wr)) := ⟨SL5.out, Nat.le_refl _, fun z hz => .inl (PS2.out.pg.lt (.inr (.inr (.inr (.inr (.inr hz))))))⟩
  have HBO2 : Hid (bo < w2.heap.size) := PS2.out.tb.lt
  have HGK2 : Hid (w.heap.size < w2.heap.size) := PS2.out.blk.lt
  clear hown5 q5 PS2 BK HMW HRW SL5
  obtain ⟨n, hn⟩ : ∃ n, (idsOf P.wr).length = n := ⟨_, rfl⟩
  rw [hn] at PL5 ⊢
  have HN := Lib.hid hn
  have hn90 : n ≤ 90 := by rw [← hn]; exact ids_le P.wr
  clear hn
  obtain ⟨ALL, hALL⟩ : ∃ R, stepW P.D k (wrL P.a t P.wr (idsOf P.wr)) = R := ⟨_, rfl⟩
  rw [hALL] at HS
  have HALL : Hid (ALL = stepW P.D k (wrL P.a t P.wr ((idsOf P.wr).drop 0))) := by rw [Hid, List.drop_zero, hALL]
  clear hALL
  generalize hgk : w.heap.size = gk at *
  have HGK := Lib.hid hgk
  clear hgk
  go_wp2_with fail
  generalize hb2 : w2.heap.size = B2 at *
  generalize hb5 : w5.heap.size = B5 at *
  go_loopw [34] (fun jv wr => ∃ (j : Nat) (s : Int) (Z' : Pz) (D' : Dsk), jv = .int .i64 (j : Int) ∧ j ≤ n ∧ Hid (PsSt w wr Z Z' P D' gk s bo t (4 * j)) ∧ Hid (PlSt B2 B5 wr Z' (.slice A5 n c5) n (idsOf P.wr)) ∧ Hid (ALL = stepW D' s (wrL P.a t P.wr ((idsOf P.wr).drop j)))) (fun jv _ => n - (intOf jv).toNat)
  case atStart => exact ⟨0, k, Z, P.D, rfl, Nat.zero_le _, PS5, PL5, HALL⟩
  case round =>
    clear PS5 PL5 HALL
    obtain ⟨j, s, Z', D', rfl, hj, PS, PL, HA⟩ := hrel
    by_cases hjn : j < n
    · obtain ⟨b5, o5, rfl, hb5', hcell⟩ : ∃ b o, A5 = some ⟨b, o, none⟩ ∧ (B2 ≤ b ∧ b < B5) ∧ ∀ j u, (iV (idsOf P.wr))[j]? = some u → wr.cell? ⟨b, o + j, none⟩ = some u := by
        obtain ⟨_, A', c', hv, _, _, _, h6⟩ := PL.out.sl
        injection hv with hA _ hc
        subst hA hc
        exact h6 (by omega)
      obtain ⟨i, hi⟩ : ∃ i, (idsOf P.wr)[j]? = some i := ⟨_, List.getElem?_eq_getElem (by rw [HN.out]; exact hjn)⟩
      have k0 : wr.cell? ⟨b5, o5 + j, none⟩ = some (.int .i64 (i : Int)) := hcell j _ (by unfold iV; rw [List.getElem?_map, hi]; rfl)
      have hmem := mem_ids.1 (List.mem_of_getElem? hi)
      have hi90 := hmem.1
      obtain ⟨b, hb⟩ := Option.isSome_iff_exists.1 hmem.2
      have hbl := HWL.out _ b hb
      obtain ⟨p, hp, -⟩ := HNX.out.2.2.1 _ b hb
      have hp2 := (HNX.out.1.row _ _ _ hp).1
      have HDROP : Hid (wrL P.a t P.wr ((idsOf P.wr).drop j) = pageW (secAt P.a p) b 0 (chunksN b) ++ wrL P.a t P.wr ((idsOf P.wr).drop (j + 1))) := by
        have hl : j < (idsOf P.wr).length := by rw [HN.out]; exact hjn
        rw [Hid, List.drop_eq_getElem_cons hl]
        have e : (idsOf P.wr)[j] = i := by rw [List.getElem?_eq_getElem hl] at hi; exact Option.some.inj hi
        rw [e]
        unfold wrL
        rw [List.flatMap_cons]
        unfold pageL
        rw [hb, hp]
        rfl
      have d6 : wr.cell? ⟨Z'.g, 6, none⟩ = some (.map (some Z'.bw)) := PS.out.pg.blk.cell 6
      have hii : InI (i : Int) := by unfold InI; omega
      obtain ⟨mw, hmw, hrw⟩ := PS.out.pg.wr.mp
      obtain ⟨Ab, cb, hAb, hub⟩ := (hrw _ hii).get
      have L6 : Hid (∀ wg, Below wr.heap.size wr wg → (Instr.lookup 71 (.map (some Z'.bw)) (.int .i64 (i : Int)) false).run Tryz.prog wg = .ok (.slice Ab b.length cb) wg) := fun wg q => by
        have := MpV.look1 (w := wg) intTy (hmw.later q) wrTy (nilBytes _) hii
        rw [hAb] at this
        simp only [hb, Option.getD_some] at this
        exact this
      have L7 : Hid (∀ wg, Below wr.heap.size wr wg → (Instr.lookup 77 (.map (some bo)) (.int .i64 (i : Int)) false).run Tryz.prog wg = .ok (.agg #[.int .i64 (p : Int), .int .i64 (b.length : Int)]) wg) := fun wg q => by
        have := MpV.look1 (w := wg) intTy (PS.out.tb.mp.later q) tbTy (zeroPl _) hii
        rw [tbV_get, hp] at this
        exact this
      have HUB : Hid (Ub wr 0 (.slice Ab b.length cb) b) := by
        have := hub
        simp only [hb, Option.getD_some] at this
        exact this
      have hzg : Z'.g = Z.g := PS.out.ptp.g
      have HSC : Hid (∀ wg, Below wr.heap.size wr wg → Calls Tryz.prog 45 #[.pointer (some ⟨Z'.g, 0, none⟩), .int .i64 (p : Int)] wg fun e w' => e = .returned (.int .i64 (secAt P.a p)) ∧ wg = w') := fun wg q => psector_any Z' { P with D := D' } p _ (PS.out.pg.later q) ha0 (by show P.a ≤ 65536; omega) (by omega)
      have HZG := Lib.hid hzg
      rw [hzg] at d6 HSC
      have HSEC : Hid (P.a + 2 ≤ secAt P.a p ∧ secAt P.a p ≤ 67000) := by unfold secAt; rw [Hid]; omega
      obtain ⟨x, hx⟩ : ∃ x, secAt P.a p = x := ⟨_, rfl⟩
      rw [hx] at HSC HDROP HSEC
      clear hcell hi hmem hb hp hmw hrw hAb hub hzg hx
      go_wp2_with fail
      refine wp_region_grow_lit (by kernel_rfl) (by kernel_rfl) ?_
      apply Exists.intro
      apply And.intro
      · repeat (first
          | (apply wpGrow_skip rfl
             intro K hK
             go_simp
             refine hK _ ?_
             clear hK K)
          | (apply wpGrow_is rfl
             · intro wg hwg _
               have c0 := cell_later hwg d6
               have e6 := L6.out wg hwg
               have e7 := L7.out wg hwg
               unfold grows
               go_simp
               first
                 | exact grows_value _ _
                 | (exact grows_same (HSC.out wg hwg))
             intro K hK
             go_simp
             refine hK _ ?_
             clear hK K))
        refine wpGrow_end (fun wg hwg _ => ?_)
        have PSg := Lib.hid (PS.out.later hwg)
        have PLg := Lib.hid (PL.out.later hwg)
        have HUg := Lib.hid (HUB.out.later hwg)
        have HAg : Hid (ALL = stepW D' s (pageW x b 0 (chunksN b - 0) ++ wrL P.a t P.wr ((idsOf P.wr).drop (j + 1)))) := by rw [Hid, HA.out, HDROP.out, Nat.sub_zero]
        have hcn : chunksN b ≤ 4 := by unfold chunksN; omega
        clear PS PL HUB HA HDROP L6 L7 HSC d6 k0
        go_wp2_with fail
        go_loopw [15] (fun kv wq => ∃ (m : Nat) (s : Int) (Z' : Pz) (D' : Dsk), kv = .int .i64 (m : Int) ∧ m ≤ chunksN b ∧ Hid (PsSt w wq Z Z' P D' gk s bo t (4 * j + m)) ∧ Hid (PlSt B2 B5 wq Z' (.slice (some ⟨b5, o5, none⟩) n c5) n (idsOf P.wr)) ∧ Hid (Ub wq 0 (.slice Ab b.length cb) b) ∧ Hid (ALL = stepW D' s (pageW x b m (chunksN b - m) ++ wrL P.a t P.wr ((idsOf P.wr).drop (j + 1))))) (fun kv _ => 4 - (intOf kv).toNat)
        case atStart => exact ⟨0, s, Z', D', rfl, Nat.zero_le _, PSg, PLg, HUg, HAg⟩
        case round =>
          clear PSg PLg HUg HAg hwg
          clear HZG
          obtain ⟨m, s, Z', D', rfl, hm, PS, PL, HU, HA⟩ := hrel
          have HCK := Lib.hid (chunks_lt (b := b) (k := m))
          have hbl2 := hbl
          obtain ⟨lo, hlo⟩ : ∃ lo, 512 * m = lo := ⟨_, rfl⟩
          have hw1 : IntKind.i64.wrap ((m : Int) * 512) = (lo : Int) := by rw [i64_inp (by omega) (by omega)]; omega
          have hw2 : (m : Int) * 512 = (lo : Int) := by omega
          by_cases hlt : lo < b.length
          · have HMC : Hid (m < chunksN b) := HCK.out.2 (by omega)
            have HPW : Hid (pageW x b m (chunksN b - m) = (x + (m : Int), chunk b m) :: pageW x b (m + 1) (chunksN b - (m + 1))) := by
              have := HMC.out
              rw [Hid, show chunksN b - m = (chunksN b - (m + 1)) + 1 by omega, pageW_cons]
            have HA2 : Hid (ALL = if decI s < 0 then (D', decI s, some 0) else if D'.why (x + (m : Int)) (chunk b m) = 0 then stepW (D'.write (x + (m : Int)) (chunk b m)) (decI s) (pageW x b (m + 1) (chunksN b - (m + 1)) ++ wrL P.a t P.wr ((idsOf P.wr).drop (j + 1))) else (D', decI s, some (D'.why (x + (m : Int)) (chunk b m)))) := by
              rw [Hid, HA.out, HPW.out, List.cons_append, stepW_cons]
            have HLO := Lib.hid hlo
            clear HA HPW HCK hlo
            go_wp2_with fail
            refine (pmore_any gk s wr PS.out.blk).mono ?_
            rintro e w6 ⟨rfl, rfl⟩
            have PS6 := Lib.hid PS.out.dec
            have PL6 := Lib.hid (PL.out.dec HGK2.out (.int .i64 (decI s)))
            have HU6 : Hid (Ub (wr.setCell ⟨gk, 0, none⟩ (.int .i64 (decI s))) 0 (.slice Ab b.length cb) b) := HU.out.other (by rw [kind_blk PS.out.blk]; decide) (grown_cell _)
            clear PS PL HU
            generalize hw6 : wr.setCell _ _ = w6 at *
            clear hw6
            by_cases hd : decI s < 0
            · have HS2 : Hid (P.steps tag k = ⟨{ P with D := D' }, false, 0⟩) := by
                rw [Hid, HS.out, HA2.out, if_pos hd]
                rfl
              rw [show decide (0 ≤ decI s) = false by simpa using hd]
              clear hd HA2
              go_wp2_with fail
              go_ret2
              exact ps_fin HS2.out PS6.out.pg PS6.out.ptp rfl rfl
            · rw [show decide (0 ≤ decI s) = true by simpa using hd]
              have HA3 : Hid (ALL = if D'.why (x + (m : Int)) (chunk b m) = 0 then stepW (D'.write (x + (m : Int)) (chunk b m)) (decI s) (pageW x b (m + 1) (chunksN b - (m + 1)) ++ wrL P.a t P.wr ((idsOf P.wr).drop (j + 1))) else (D', decI s, some (D'.why (x + (m : Int)) (chunk b m)))) := by
                rw [Hid, HA2.out, if_neg hd]
              clear hd HA2
              have hzg : Z'.g = Z.g := PS6.out.ptp.g
              obtain ⟨hj', hhj⟩ : ∃ hj, lo + 512 = hj := ⟨_, rfl⟩
              have hw3 : ((m : Int) + 1) * 512 = (hj' : Int) := by omega
              have hw4 : IntKind.i64.wrap (((m : Int) + 1) * 512) = (hj' : Int) := by rw [i64_inp (by omega) (by omega)]; omega
              have hw5 : IntKind.i64.wrap ((m : Int) + 1) = (m : Int) + 1 := i64_inp (by omega) (by omega)
              have hw6 : IntKind.i64.wrap (hj' : Int) = (hj' : Int) := i64_inp (by omega) (by omega)
              have hw7 : IntKind.i64.wrap (x + (m : Int)) = x + (m : Int) := i64_inp (by have := HSEC.out; omega) (by have := HSEC.out; omega)
              have hw8 : IntKind.i64.wrap (lo : Int) = (lo : Int) := i64_inp (by omega) (by omega)
              have l0 : w6.drew.cell? ⟨Z.g, 0, none⟩ = some (.pointer (some ⟨Z'.h.g, 0, none⟩)) := by rw [← hzg]; exact PS6.out.pg.blk.cell 0
              obtain ⟨_, A', c', he, hlc, hcm, _, hA⟩ := HU6.out
              cases he
              obtain ⟨bb, ob, rfl, -, -⟩ := hA (by omega)
              clear hA hzg
              by_cases hi2 : cb = lo
              · omega
              have HJ := Lib.hid hhj
              have hXI : Hid (InI (x + (m : Int))) := by have := HSEC.out; unfold InI; rw [Hid]; omega
              by_cases hbe : b.length < hj'
              · have i4 : (b.length : Int) < (hj' : Int) := by omega
                have hch : Hid ((b.drop lo).take (b.length - lo) = chunk b m) := by
                  unfold chunk
                  rw [Hid, HLO.out]
                  have := HJ.out
                  by_cases h9 : b.length - lo = 512
                  · rw [h9]
                  · rw [List.take_of_length_le (by rw [List.length_drop]; omega), List.take_of_length_le (by rw [List.length_drop]; omega)]
                have i5 : (lo : Int) ≤ (b.length : Int) := by omega
                have i6 : (b.length : Int) ≤ (cb : Int) := by omega
                have i7 : min (hj' : Int) (b.length : Int) = (b.length : Int) := by omega
                go_wp2_with fail
                go_still_tail 17, (by kernel_rfl)
                change wpList _ _ _ _ _ w6.drew
                have PS7 : Hid (PsSt w w6.drew Z Z' P D' gk (decI s) bo t (4 * j + m)) := PS6.out.later (below_drewN (Below.refl w6.heap.size w6) 1)
                have PL7 : Hid (PlSt B2 B5 w6.drew Z' (.slice (some ⟨b5, o5, none⟩) n c5) n (idsOf P.wr)) := PL6.out.later (below_drewN (Below.refl w6.heap.size w6) 1)
                have HU7 : Hid (Ub w6.drew 0 (.slice (some ⟨bb, ob, none⟩) b.length cb) b) := HU6.out.later (below_drewN (Below.refl w6.heap.size w6) 1)
                have hbs : Bs (UbS w6.drew 0) w6.drew (.slice (some ⟨bb, ob + lo, none⟩) (b.length - lo) (cb - lo)) ((b.drop lo).take (b.length - lo)) := by
                  have h9 := Bs.cut (k := lo) HU7.out (by omega)
                  rw [if_neg hi2, ← List.length_drop] at h9
                  exact Bs.pre h9 (by rw [List.length_drop]; omega)
                rw [hch.out] at hbs
                have HBS := Lib.hid hbs
                have hckl := chunk_len b m
                clear hbs hw1 hw2 hw3 hw4 hw5 hw6 hw7 hw8 i7 hch PS6 PL6 HU6
                generalize hcc : chunk b m = ch at *
                have HCC := Lib.hid hcc
                clear hcc
                generalize hw7 : w6.drew = w7 at *
                clear hw7
                go_wp2_with fail
                refine (dwrite_any Z'.h D' (x + (m : Int)) _ _ ch w7 PS7.out.pg.dk PS7.out.ok hXI.out HBS.out (by omega) (by have := PS7.out.pend; omega)).mono ?_
                rintro e w8 ⟨rfl, h8, hd8, hs8⟩
                obtain ⟨y, hy⟩ : ∃ y, D'.why (x + (m : Int)) ch = y := ⟨_, rfl⟩
                have PS8 := Lib.hid (PS7.out.write hs8 hd8)
                have PL8 := Lib.hid (PL7.out.stp hs8)
                have HU8 := Lib.hid (hs8.ub PS7.out.pg.dk HU7.out)
                rw [hy] at HA3 ⊢
                by_cases hy0 : y = 0
                · subst hy0
                  have HA8 : Hid (ALL = stepW (D'.write (x + (m : Int)) ch) (decI s) (pageW x b (m + 1) (chunksN b - (m + 1)) ++ wrL P.a t P.wr ((idsOf P.wr).drop (j + 1)))) := by rw [Hid, HA3.out, if_pos rfl]
                  have hmc := HMC.out
                  clear hy hd8 hs8 PS7 PL7 HU7 HA3 HBS l0
                  go_wp2_with fail
                  go_roundw
                  case rel => exact ⟨m + 1, decI s, _, _, by go_num, by omega, PS8, PL8, HU8, HA8⟩
                  case measure => simp [intOf]; omega
                · have hy1 : ¬ ((y : Int) = 0) := by omega
                  have hy2 : ((y : Int) == 0) = false := by rw [beq_eq_false_iff_ne]; omega
                  have hy3 : ((y : Int) != 0) = true := by rw [bne_iff_ne]; omega
                  have HWN : Hid (D'.write (x + (m : Int)) ch = D') := by unfold Dsk.write; rw [Hid, hy, if_neg hy0]
                  have HS2 : Hid (P.steps tag k = ⟨{ P with D := D' }, false, y⟩) := by
                    rw [Hid, HS.out, HA3.out, if_neg hy0]
                    rfl
                  have PG8 : Hid (Pg w8 { Z' with h := h8 } { P with D := D' }) := by
                    have := PS8.out.pg
                    rw [HWN.out] at this
                    exact this
                  clear hy hd8 hs8 PS7 PL7 HU7 HA3 HBS l0 hy0
                  go_wp2_with fail
                  go_ret2
                  exact ps_fin HS2.out PG8.out PS8.out.ptp rfl rfl
              · have i4 : ¬ (b.length : Int) < (hj' : Int) := by omega
                have hch : Hid ((b.drop lo).take (hj' - lo) = chunk b m) := by
                  unfold chunk
                  rw [Hid, HLO.out]
                  have := HJ.out
                  by_cases h9 : hj' - lo = 512
                  · rw [h9]
                  · rw [List.take_of_length_le (by rw [List.length_drop]; omega), List.take_of_length_le (by rw [List.length_drop]; omega)]
                have i5 : (lo : Int) ≤ (hj' : Int) := by omega
                have i6 : (hj' : Int) ≤ (cb : Int) := by omega
                have i7 : min (hj' : Int) (b.length : Int) = (hj' : Int) := by omega
                go_wp2_with fail
                go_still_tail 17, (by kernel_rfl)
                change wpList _ _ _ _ _ w6.drew
                have PS7 : Hid (PsSt w w6.drew Z Z' P D' gk (decI s) bo t (4 * j + m)) := PS6.out.later (below_drewN (Below.refl w6.heap.size w6) 1)
                have PL7 : Hid (PlSt B2 B5 w6.drew Z' (.slice (some ⟨b5, o5, none⟩) n c5) n (idsOf P.wr)) := PL6.out.later (below_drewN (Below.refl w6.heap.size w6) 1)
                have HU7 : Hid (Ub w6.drew 0 (.slice (some ⟨bb, ob, none⟩) b.length cb) b) := HU6.out.later (below_drewN (Below.refl w6.heap.size w6) 1)
                have hbs : Bs (UbS w6.drew 0) w6.drew (.slice (some ⟨bb, ob + lo, none⟩) (hj' - lo) (cb - lo)) ((b.drop lo).take (hj' - lo)) := by
                  have h9 := Bs.cut (k := lo) HU7.out (by omega)
                  rw [if_neg hi2, ← List.length_drop] at h9
                  exact Bs.pre h9 (by rw [List.length_drop]; omega)
                rw [hch.out] at hbs
                have HBS := Lib.hid hbs
                have hckl := chunk_len b m
                clear hbs hw1 hw2 hw3 hw4 hw5 hw6 hw7 hw8 i7 hch PS6 PL6 HU6
                generalize hcc : chunk b m = ch at *
                have HCC := Lib.hid hcc
                clear hcc
                generalize hw7 : w6.drew = w7 at *
                clear hw7
                go_wp2_with fail
                refine (dwrite_any Z'.h D' (x + (m : Int)) _ _ ch w7 PS7.out.pg.dk PS7.out.ok hXI.out HBS.out (by omega) (by have := PS7.out.pend; omega)).mono ?_
                rintro e w8 ⟨rfl, h8, hd8, hs8⟩
                obtain ⟨y, hy⟩ : ∃ y, D'.why (x + (m : Int)) ch = y := ⟨_, rfl⟩
                have PS8 := Lib.hid (PS7.out.write hs8 hd8)
                have PL8 := Lib.hid (PL7.out.stp hs8)
                have HU8 := Lib.hid (hs8.ub PS7.out.pg.dk HU7.out)
                rw [hy] at HA3 ⊢
                by_cases hy0 : y = 0
                · subst hy0
                  have HA8 : Hid (ALL = stepW (D'.write (x + (m : Int)) ch) (decI s) (pageW x b (m + 1) (chunksN b - (m + 1)) ++ wrL P.a t P.wr ((idsOf P.wr).drop (j + 1)))) := by rw [Hid, HA3.out, if_pos rfl]
                  have hmc := HMC.out
                  clear hy hd8 hs8 PS7 PL7 HU7 HA3 HBS l0
                  go_wp2_with fail
                  go_roundw
                  case rel => exact ⟨m + 1, decI s, _, _, by go_num, by omega, PS8, PL8, HU8, HA8⟩
                  case measure => simp [intOf]; omega
                · have hy1 : ¬ ((y : Int) = 0) := by omega
                  have hy2 : ((y : Int) == 0) = false := by rw [beq_eq_false_iff_ne]; omega
                  have hy3 : ((y : Int) != 0) = true := by rw [bne_iff_ne]; omega
                  have HWN : Hid (D'.write (x + (m : Int)) ch = D') := by unfold Dsk.write; rw [Hid, hy, if_neg hy0]
                  have HS2 : Hid (P.steps tag k = ⟨{ P with D := D' }, false, y⟩) := by
                    rw [Hid, HS.out, HA3.out, if_neg hy0]
                    rfl
                  have PG8 : Hid (Pg w8 { Z' with h := h8 } { P with D := D' }) := by
                    have := PS8.out.pg
                    rw [HWN.out] at this
                    exact this
                  clear hy hd8 hs8 PS7 PL7 HU7 HA3 HBS l0 hy0
                  go_wp2_with fail
                  go_ret2
                  exact ps_fin HS2.out PG8.out PS8.out.ptp rfl rfl
          · have HME : Hid (m = chunksN b) := by
              have h1 := HCK.out
              rw [hlo] at h1
              have : ¬ m < chunksN b := fun e => hlt (h1.1 e)
              rw [Hid]; omega
            have PS7 : Hid (PsSt w wr Z Z' P D' gk s bo t (4 * (j + 1))) := by
              have h1 := PS.out
              have h2 := PS.out.pend
              have h3 := HME.out
              exact ⟨h1.pg, h1.ptp, h1.blk, h1.kind, h1.tb, h1.k0, h1.b0, h1.bn, h1.ok, h1.wrs, h1.s, by omega⟩
            have HA7 : Hid (ALL = stepW D' s (wrL P.a t P.wr ((idsOf P.wr).drop (j + 1)))) := by
              rw [Hid, HA.out, ← HME.out, Nat.sub_self]
              rfl
            clear HCK HA HME hlo
            go_wp2_with fail
            go_roundw
            case rel => exact ⟨j + 1, s, Z', D', by go_num, by omega, PS7, PL, HA7⟩
            case measure => simp [intOf]; omega
      · apply And.intro
        · repeat (first | exact trivial | (refine ⟨Stays.is _, ?_⟩) | (refine ⟨Stays.bs _, ?_⟩) | (refine ⟨Stays.pg _ _ _, ?_⟩))
        · rfl
    · obtain rfl : j = n := by omega
      have HA0 : Hid (ALL = (D', s, none)) := by
        rw [Hid, HA.out, List.drop_eq_nil_of_le (by rw [HN.out]; exact Nat.le_refl _)]
        rfl
      clear HA PL
      go_wp2_with fail
      refine (pmore_any gk s wr PS.out.blk).mono ?_
      rintro e w6 ⟨rfl, rfl⟩
      have PS6 := Lib.hid PS.out.dec
      clear PS
      generalize hw6 : wr.setCell _ _ = w6 at *
      clear hw6
      have HS0 : Hid (P.steps tag k = if decI s < 0 then ⟨{ P with D := D' }, false, 0⟩ else P.fin t tag (mtSteps D'.sync P.a P.num P.last (tellsT tag t) (decI s))) := by rw [Hid, HS.out, HA0.out]; rfl
      by_cases hd : decI s < 0
      · have HS2 : Hid (P.steps tag k = ⟨{ P with D := D' }, false, 0⟩) := by rw [Hid, HS0.out, if_pos hd]
        rw [show decide (0 ≤ decI s) = false by simpa using hd]
        clear hd HS0
        go_wp2_with fail
        go_ret2
        exact ps_fin HS2.out PS6.out.pg PS6.out.ptp rfl rfl
      · rw [show decide (0 ≤ decI s) = true by simpa using hd]
        have HS1 : Hid (P.steps tag k = P.fin t tag (mtSteps D'.sync P.a P.num P.last (tellsT tag t) (decI s))) := by rw [Hid, HS0.out, if_neg hd]
        clear hd HS0 HA0 HS
        have hzg : Z'.g = Z.g := PS6.out.ptp.g
        have l0 : w6.cell? ⟨Z.g, 0, none⟩ = some (.pointer (some ⟨Z'.h.g, 0, none⟩)) := by rw [← hzg]; exact PS6.out.pg.blk.cell 0
        clear hzg
        go_wp2_with fail
        refine (dsync_any Z'.h D' w6 PS6.out.pg.dk PS6.out.ok).mono ?_
        rintro e w7 ⟨rfl, h7, hd7, hs7⟩
        obtain ⟨p7, t7⟩ := PS6.out.pg.stp hs7 hd7
        have PG7 := Lib.hid p7
        have PT7 := Lib.hid (PS6.out.ptp.trans t7)
        have hnot : ∀ {b : Nat} {k : Option TypeId}, kindAt w6 b = some k → k ≠ some 75 → k ≠ none → k ≠ some 113 → ¬ Z'.h.has b := fun hb h1 h2 h3 e => by
          rcases PS6.out.pg.dk.kinds e with e | e | e <;> (rw [hb] at e; injection e with e; first | exact h1 e | exact h2 e | exact h3 e)
        have BG7 := Lib.hid (PS6.out.blk.turn hs7.turn (hnot (kind_blk PS6.out.blk) (by decide) (by decide) (by decide)))
        have TB7 : Hid (Tbl w7 bo t) := ⟨PS6.out.tb.in90, PS6.out.tb.mp.at (hs7.turn.block _ PS6.out.tb.lt fun e => PS6.out.bn (.inr (.inr (.inr (.inr (.inr e))))))⟩
        have BN7 : Hid (¬ ({ Z' with h := h7 } : Pz).has bo) := fun e => by
          rcases t7.has _ e with e | e
          · exact PS6.out.bn e
          · have := PS6.out.tb.lt; omega
        have B0 := Lib.hid PS6.out.b0
        have DOK0 := Lib.hid PS6.out.ok
        have HB7 : Hid (BitsOk w7) := HBX.out w7 PT7.out.turn
        have HDI := Lib.hid (decI_in s)
        have HGK0 := Lib.hid PS6.out.k0
        obtain ⟨dk, hdk⟩ : ∃ dk, decI s = dk := ⟨_, rfl⟩
        rw [hdk] at BG7 HDI HS1
        clear hd7 hs7 p7 t7 hnot PS6 l0 hdk
        have hzg : Z'.g = Z.g := PT7.out.g
        have l1 : w7.cell? ⟨Z.g, 1, none⟩ = some (.pointer (some ⟨Z'.gm, 0, none⟩)) := by rw [← hzg]; exact PG7.out.blk.cell 1
        have b0 : w7.cell? ⟨gk, 0, none⟩ = some (.int .i64 dk) := BG7.out.cell 0
        have HL1 : Hid (∀ wg, Below w7.heap.size w7 wg → wg.cell? ⟨Z.g, 1, none⟩ = some (.pointer (some ⟨Z'.gm, 0, none⟩))) := fun wg q => (q.cell (p := ⟨Z.g, 1, none⟩) (by have := PG7.out.blk.lt; simp only at this ⊢; omega)).trans l1
        have HL0 : Hid (∀ wg, Below w7.heap.size w7 wg → wg.cell? ⟨gk, 0, none⟩ = some (.int .i64 dk)) := fun wg q => (BG7.out.later q).cell 0
        have DOK : Hid (D'.sync.Ok) := DOK0.out.sync
        have HBT : Hid (∀ wg, Below w7.heap.size w7 wg → BitsOk wg) := fun wg q => HB7.out.later q
        go_wp2_with fail
        have HDR : Hid (Below w7.heap.size w7 w7.drew) := below_drewN (Below.refl _ _) 1
        go_region_law (first
          | (go_simp; go_at_call 32; refine (msteps_any h7 D'.sync Z'.gm P.a P.num P.last (tellsT tag t) dk w8 PG8.out.dk DOK.out (by show (0 : Nat) ≤ 900000; omega) PG8.out.mt ha0 ha1 hl0 hl1 HNUM.out HB8.out HDI.out).mono ?_; rintro e w9 ⟨rfl, h9, hd9, hm9, ht9⟩)
          | (go_simp; go_at_call 48; refine (ptells_any tag bo t P.n _ (TB7.out.later HDR.out) HNX.out.1 h256 HTAG.out).mono ?_; rintro e w8 ⟨rfl, q8⟩; have q9 : Below w7.heap.size w7 w8 := HDR.out.trans (q8.mono (Nat.le_refl _)); have PG8 := Lib.hid (PG7.out.later q9); have l1 := HL1.out w8 q9; have b0 := HL0.out w8 q9; have HB8 := Lib.hid (HBT.out w8 q9); have TB8 := Lib.hid (TB7.out.later q9); have PT8 := Lib.hid (PT7.out.later q9); clear q8 q9))
        all_goals
          obtain ⟨M, hM⟩ : ∃ M, mtSteps D'.sync P.a P.num P.last (tellsT tag t) dk = M := ⟨_, rfl⟩
          rw [hM] at hd9 hm9 HS1 ⊢
          obtain ⟨p9, t9⟩ := PG8.out.mtp ht9 hd9 hm9
          have PG9 : Hid (Pg w9 { Z' with h := h9 } { P with D := M.D, num := M.num, last := M.last }) := p9
          have PT9 := Lib.hid (PT8.out.trans t9)
          have BN9 : Hid (¬ ({ Z' with h := h9 } : Pz).has bo) := fun e => by
            rcases t9.has _ e with e | e
            · exact BN7.out e
            · have := TB8.out.lt; omega
          have TB9 : Hid (Tbl w9 bo t) := ⟨TB8.out.in90, TB8.out.mp.at (ht9.turn.block _ TB8.out.lt fun e => by
            rcases e with e | e
            · exact BN7.out (.inr (.inr (.inr (.inr (.inr e)))))
            · exact BN7.out (.inr (.inl e)))⟩
          clear hM hd9 hm9 ht9 p9 t9 PG8 PT8 TB8 HB8 l1 b0 HL1 HL0 HBT HDR DOK DOK0 PG7 PT7 BG7 TB7 HB7 HBX
          obtain ⟨MD, mnum, mlast, dn, er⟩ := M
          simp only at PG9 HS1 ⊢
          cases dn with
          | false =>
            have HS2 : Hid (P.steps tag k = ⟨{ P with D := MD, num := mnum, last := mlast }, false, er⟩) := by rw [Hid, HS1.out]; rfl
            clear HS1
            go_wp2_with fail
            go_ret2
            exact ps_fin HS2.out PG9.out PT9.out rfl rfl
          | true =>
            have HS2 : Hid (P.steps tag k = ⟨{ P with D := MD, num := mnum, last := mlast, tag := tag, tb := t, wr := fun _ => none, gn := fun _ => false }, true, er⟩) := by rw [Hid, HS1.out]; rfl
            clear HS1
            obtain ⟨pa, ga⟩ := PG9.out.setTbl TB9.out BN9.out tag
            have PGA := Lib.hid pa
            have PTA := Lib.hid (PT9.out.setTbl ga B0.out)
            have c4 : w9.cell? ⟨Z.g, 4, none⟩ = some (.int .u64 (P.tag : Int)) := by rw [← hzg]; exact PG9.out.blk.cell 4
            have c5 : w9.cell? ⟨Z.g, 5, none⟩ = some (.map (some Z'.bt)) := by rw [← hzg]; exact PG9.out.blk.cell 5
            have f4 : w9.frozen? ⟨Z.g, 4, none⟩ = false := by rw [← hzg]; exact PG9.out.blk.free 4
            have f5 : w9.frozen? ⟨Z.g, 5, none⟩ = false := by rw [← hzg]; exact PG9.out.blk.free 5
            simp only [hzg] at PGA PTA
            clear pa ga PG9 PT9 TB9 BN9
            go_wp2_with fail
            generalize hwa : World.setCell (World.setCell w9 _ _) _ _ = wa at *
            clear hwa c4 c5 f4 f5
            refine (pdrop_any _ _ wa PGA.out).mono ?_
            rintro e wb ⟨rfl, hdone⟩
            have PGB := Lib.hid hdone.1
            have PTB := Lib.hid (PTA.out.trans hdone.2)
            clear hdone
            go_wp2_with fail
            go_ret2
            exact ps_fin HS2.out PGB.out PTB.out rfl rfl
end Go.Proofs.YtildohndbeagaaaGreatDoor
