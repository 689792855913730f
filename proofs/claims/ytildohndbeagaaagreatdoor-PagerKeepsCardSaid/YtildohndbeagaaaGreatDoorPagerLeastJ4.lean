/- What the proof of PagerLeast needs, part 4. -/
import Derived.Test.YtildohndbeagaaaGreatDoorPagerLeastJ3
import Derived.StillTailTactics
import Derived.Deep.RegionWith
import Derived.Laws.Rows

namespace Go.Proofs.YtildohndbeagaaaGreatDoor
open Go Go.RowKit
set_option linter.unusedVariables false

/-- Survivors as cells. -/
def pcs (l : List (Int × Int)) : List Value := l.flatMap fun x => [.int .i64 x.1, .int .i64 x.2]
theorem pcs_len (l : List (Int × Int)) : (pcs l).length = l.length * 2 := by
  induction l with
  | nil => rfl
  | cons r rs ih => simp only [pcs, List.flatMap_cons, List.length_append, List.length_cons, List.length_nil] at ih ⊢; omega
theorem pcs_at {l : List (Int × Int)} {j : Nat} (h : j < l.length) : (pcs l)[j * 2]? = some (.int .i64 l[j].1) ∧ (pcs l)[j * 2 + 1]? = some (.int .i64 l[j].2) := by
  induction l generalizing j with
  | nil => simp at h
  | cons r rs ih =>
    rcases j with _ | j
    · simp [pcs]
    · have := ih (j := j) (by simpa using h)
      simp only [pcs, List.flatMap_cons] at this ⊢
      rw [show (j + 1) * 2 = j * 2 + 1 + 1 by omega]
      simpa using this
/-- The slice value v reads as the survivors l. -/
def Sv (S : Nat → Prop) (w : World) (v : Value) (l : List (Int × Int)) : Prop := Sl S w 2 v l.length (pcs l)
theorem Sv.at {S : Nat → Prop} {w : World} {v : Value} {l : List (Int × Int)} (h : Sv S w v l) : ∃ A c, v = .slice A l.length c ∧
    (0 < l.length → ∃ b o, A = some ⟨b, o, none⟩ ∧ b < w.heap.size ∧ ∀ j (hj : j < l.length), w.cell? ⟨b, o + j * 2, none⟩ = some (.int .i64 l[j].1) ∧ w.cell? ⟨b, o + j * 2 + 1, none⟩ = some (.int .i64 l[j].2)) := by
  obtain ⟨_, A, c, h2, h3, h4, h5, h6⟩ := h
  refine ⟨A, c, h2, fun hn => ?_⟩
  obtain ⟨b, o, ha, hs, hc⟩ := h6 hn
  have h0 := hc _ _ (pcs_at hn).1
  refine ⟨b, o, ha, World.block_lt_of_cell? w _ h0, fun j hj => ⟨hc _ _ (pcs_at hj).1, ?_⟩⟩
  rw [Nat.add_assoc]
  exact hc _ _ (pcs_at hj).2
def fstOf (l : List (Int × Int)) (a : Int) : Option Int := (l.find? fun x => x.1 == a).map (·.2)
theorem fstOf_drop {l : List (Int × Int)} {i : Nat} (h : i < l.length) (a : Int) : fstOf (l.drop i) a = if a = l[i].1 then some l[i].2 else fstOf (l.drop (i + 1)) a := by
  unfold fstOf
  rw [List.drop_eq_getElem_cons h]
  by_cases ha : a = l[i].1
  · rw [if_pos ha, List.find?_cons_of_pos (by simp [ha])]; rfl
  · rw [if_neg ha, List.find?_cons_of_neg (by simp; exact fun e => ha e.symm)]
theorem keptN_fst (l : List (Int × Int)) (k : Nat) : keptN l k = fstOf l (k : Int) := rfl
theorem crashF_snoc (l : List (Int × Int)) : ∀ (ps : List Pnd) (p : Pnd) (k : Nat) (s : SF × Nat), crashF l k (ps ++ [p]) s = match keptN l (k + ps.length) with | some n => doP (crashF l k ps s) p n | none => crashF l k ps s
  | [], p, k, s => by
    simp only [List.nil_append, crashF, List.length_nil, Nat.add_zero]
    cases keptN l k <;> rfl
  | q :: ps, p, k, s => by
    rw [List.cons_append, crashF, crashF_snoc l ps p (k + 1)]
    rw [show k + 1 + ps.length = k + (q :: ps).length by simp; omega]
    rfl
theorem fstOf_in {l : List (Int × Int)} (h : ∀ x ∈ l, InI x.1 ∧ InI x.2) {a n : Int} (hf : fstOf l a = some n) : InI n := by
  unfold fstOf at hf
  cases hfd : l.find? (fun x => x.1 == a) with
  | none => rw [hfd] at hf; cases hf
  | some x =>
    rw [hfd] at hf
    simp only [Option.map_some, Option.some.injEq] at hf
    subst hf
    exact (h x (List.mem_of_find?_eq_some hfd)).2
theorem miTy : Tryz.prog.underlying 78 = some (.map 3 3) := Tryz.underlying78
theorem zeroInt (w : World) : (zeroValue 3).run Tryz.prog w = .ok (.int .i64 0) w := by kernel_rfl

theorem closure_call {w : World} {v : Value} {p : Pnd} {bm n0 : Nat} {f : SF} {n : Int} (hp : PnIs w v p) (hpo : PnOk p) (hs : Secs w bm f n0) (hf : FinK f n0) (hn : InI n) {fn : FuncId} {args : Array Value}
    (hv : ∃ caps, v = .func (Fn.func fn) #[] caps ∧ args = #[.map (some bm), .int .i64 n] ++ caps) :
    Calls Tryz.prog fn args w fun e w' => e = .returned (.tuple #[]) ∧ Secs w' bm (doP (f, n0) p n).1 (doP (f, n0) p n).2 ∧ w.grownBy w' (some bm) := by
  obtain ⟨fn', caps', hf', hcall⟩ := closure_any hp hpo hs hf hn (Q := fun e w' => e = .returned (.tuple #[]) ∧ Secs w' bm (doP (f, n0) p n).1 (doP (f, n0) p n).2 ∧ w.grownBy w' (some bm)) (fun w' h1 h2 => ⟨rfl, h1, h2⟩)
  obtain ⟨caps, hpv, harg⟩ := hv
  rw [hpv] at hf'
  injection hf' with hf1 hf2 hf3
  injection hf1 with hf1
  subst hf1 hf3
  exact hcall args harg
/-- The second loop: so many pending writes were looked at. -/
structure CrSt (w wr : World) (h : Zn) (D : Dsk) (l : List (Int × Int)) (vs : List Value) (i nl : Nat) : Prop where
  blk : Blk wr h.g 75 #[.int .i64 D.size, .int .i64 D.limit, .map (some h.bv), .map (some h.bg), h.pv]
  ground : Secs wr h.bg (crashF l 0 (D.pend.take i) (D.ground, D.ng)).1 (crashF l 0 (D.pend.take i) (D.ground, D.ng)).2
  pend : Ow 113 wr 0 h.pv vs ∧ PnL wr vs D.pend
  left : ∃ lm, MpV Tryz.prog 3 wr w.heap.size lm nl ∧ ∀ a, InI a → lm a = (fstOf l a).map (Value.int .i64)
  turn : Turn h.has w wr
  bgl : h.bg < w.heap.size

theorem crst_step {w wr w3 : World} {h : Zn} {D : Dsk} {l : List (Int × Int)} {vs : List Value} {i nl : Nat} (hst : CrSt w wr h D l vs i nl)
    (hs3 : Secs w3 h.bg (crashF l 0 (D.pend.take (i + 1)) (D.ground, D.ng)).1 (crashF l 0 (D.pend.take (i + 1)) (D.ground, D.ng)).2) (hg3 : wr.grownBy w3 (some h.bg)) : CrSt w w3 h D l vs (i + 1) nl := by
  have kv := hst.ground.kind
  obtain ⟨lm, hlm, hlv⟩ := hst.left
  refine ⟨hst.blk.grown hg3 (fun e => ?_), hs3, ⟨hst.pend.1.other (fun e => ?_) hg3, hst.pend.2.keep fun v p hp => hp.other (fun t ht => by rw [kv]; simp) hg3⟩, ⟨lm, ?_, hlv⟩, hst.turn.trans (Turn.of_grown (F := h.has) hg3 (fun z hz => by injection hz with hz; exact .inr (.inr (.inl hz.symm)))) (fun b hb => .inl hb), hst.bgl⟩
  · injection e with e
    have e2 : h.g = h.bg := by first | exact e | exact e.symm
    exact absurd ((kind_blk hst.blk).symm.trans ((congrArg (kindAt _) e2).trans kv)) (by simp)
  · have := kind_own hst.pend.1 e
    rw [kv] at this
    cases this
  · exact hlm.other (by have := hst.bgl; omega) hg3

set_option maxHeartbeats 2000000 in
set_option maxRecDepth 100000 in
theorem dcrash_any (h : Zn) (D : Dsk) (S : Nat → Prop) (v0 : Value) (l : List (Int × Int)) (w : World) (hd : Dk w h D) (hok : D.Ok) (hsv : Sv S w v0 l) (hin : ∀ x ∈ l, InI x.1 ∧ InI x.2) (hll : l.length ≤ 1000000) (hlen : D.pend.length ≤ 1000000000) :
    Calls Tryz.prog 26 #[.pointer (some ⟨h.g, 0, none⟩), v0] w fun e w' => e = .returned (.tuple #[]) ∧ ∃ h', Dk w' h' (D.crash l) ∧ Stp h w h' w' := by
  obtain ⟨g, bv, bg, sl⟩ := h
  obtain ⟨A, c, rfl, hA⟩ := hsv.at
  have HA := Lib.hid hA
  have HD := Lib.hid hd
  have HOK := Lib.hid hok
  have HIN := Lib.hid hin
  have hmm := @run_makeMap Tryz.prog
  have hM0 : Hid (MpV Tryz.prog 3 (w.alloc (.map #[] 0)) w.heap.size (fun _ => none) 0) := MpV.made _ _ w
  have q0 : Below w.heap.size w (w.alloc (.map #[] 0)) := (Below.refl _ _).alloc (Nat.le_refl _) _
  clear hd hok hin hA hsv
  go_enter Tryz.func26, Tryz.ntmps26
  go_wp2_with fail
  go_loopw [5] (fun iv wr => ∃ (i : Nat) (lm : Int → Option Value) (nl : Nat), iv = .int .i64 ((i : Int) - 1) ∧ i ≤ l.length ∧ nl ≤ l.length - i ∧ MpV Tryz.prog 3 wr w.heap.size lm nl ∧ Hid (∀ a, InI a → lm a = (fstOf (l.drop i) a).map (Value.int .i64)) ∧ Below w.heap.size w wr) (fun iv _ => (intOf iv + 1).toNat)
  case atStart =>
    exact ⟨l.length, _, 0, rfl, Nat.le_refl _, by omega, hM0.out, fun a _ => by rw [List.drop_length]; rfl, q0⟩
  case round =>
    obtain ⟨i, lm, nl, rfl, hi, hnl, hm, hlm, hbl⟩ := hrel
    have HM := Lib.hid hm
    clear hm
    rcases i with _ | j
    · have HLM : Hid (∀ a, InI a → lm a = (fstOf l a).map (Value.int .i64)) := fun a ha => by have := hlm.out a ha; rw [List.drop_zero] at this; exact this
      obtain ⟨vs, hown, hpl⟩ := HD.out.pend
      obtain ⟨A0, c0, hsl, hsA⟩ := Ow.shape hown
      simp only at hsl
      subst hsl
      have HVL := Lib.hid hpl.1
      have hvb : vs.length ≤ 1000000000 := by have := hpl.1; omega
      have hbvl := HD.out.view.lt
      have hbgl := HD.out.ground.lt
      have hgl := HD.out.blk.lt
      simp only at hbvl hbgl hgl
      have qr := hbl
      have hsz := qr.size
      have d1 := HD.out.later qr
      have HSA : Hid (0 < vs.length → ∃ g', A0 = some ⟨g', 0, none⟩) := fun h0 => by obtain ⟨g', h1, _⟩ := hsA h0; exact ⟨g', h1⟩
      have S0 : CrSt w wr ⟨g, bv, bg, .slice A0 vs.length c0⟩ D l vs 0 nl := ⟨d1.blk, by rw [List.take_zero]; exact d1.ground, ⟨Ow.later hown qr, hpl.keep fun _ _ h => h.later qr⟩, ⟨lm, HM.out, HLM.out⟩, Turn.of_below qr, hbgl⟩
      have c4 : wr.cell? ⟨g, 4, none⟩ = some (.slice A0 vs.length c0) := d1.blk.cell 4
      clear d1 hsA hpl hown hlm hbl HM HLM qr
      go_wp2_with fail
      go_loopw [34] (fun iv wq => ∃ i : Nat, iv = .int .i64 (i : Int) ∧ i ≤ vs.length ∧ CrSt w wq ⟨g, bv, bg, .slice A0 vs.length c0⟩ D l vs i nl) (fun iv _ => vs.length - (intOf iv).toNat)
      case atStart => exact ⟨0, rfl, Nat.zero_le _, S0⟩
      case round =>
        clear S0
        obtain ⟨i, rfl, hi, hst⟩ := hrel
        have HST := Lib.hid hst
        have c2 : wr.cell? ⟨g, 2, none⟩ = some (.map (some bv)) := hst.blk.cell 2
        have c3 : wr.cell? ⟨g, 3, none⟩ = some (.map (some bg)) := hst.blk.cell 3
        have c4 : wr.cell? ⟨g, 4, none⟩ = some (.slice A0 vs.length c0) := hst.blk.cell 4
        have HFK : Hid (FinK (crashF l 0 (D.pend.take i) (D.ground, D.ng)).1 (crashF l 0 (D.pend.take i) (D.ground, D.ng)).2) := crashF_ok l _ 0 _ HOK.out.ground fun p hp => HOK.out.pend p (List.mem_of_mem_take hp)
        have hlenv := HVL.out
        by_cases hil : i < vs.length
        · obtain ⟨g', c', hv', _, hg'l, hcells, _⟩ := Ow.open hst.pend.1 (by omega)
          injection hv' with hA' _ hc'
          subst hA' hc'
          have cp : wr.cell? ⟨g', i, none⟩ = some vs[i] := hcells i hil
          have hps : i < D.pend.length := by omega
          have hpn := hst.pend.2.2 i vs[i] D.pend[i] (List.getElem?_eq_getElem hil) (List.getElem?_eq_getElem hps)
          obtain ⟨lm, hlm, hlv⟩ := hst.left
          have hii : InI (i : Int) := by unfold InI; omega
          have hlk := hlm.look intTy miTy (zeroInt wr) hii
          rw [hlv _ hii] at hlk
          have HEQ : Hid (crashF l 0 (D.pend.take (i + 1)) (D.ground, D.ng) = match fstOf l (i : Int) with | some n => doP (crashF l 0 (D.pend.take i) (D.ground, D.ng)) D.pend[i] n | none => crashF l 0 (D.pend.take i) (D.ground, D.ng)) := by
            rw [Hid, List.take_succ_eq_append_getElem hps, crashF_snoc, List.length_take, Nat.zero_add, Nat.min_eq_left (Nat.le_of_lt hps)]
            rfl
          obtain ⟨vq, hvq0⟩ : ∃ v, vs[i] = v := ⟨_, rfl⟩
          rw [hvq0] at cp hpn
          have hiv : (i : Int) < (vs.length : Int) := by omega
          have hi0 : (0 : Int) ≤ (i : Int) := by omega
          clear hst hcells hlm hlv hvq0 hlenv
          cases hk : fstOf l (i : Int) with
          | none =>
            rw [hk] at hlk
            simp only [Option.map_none, Option.getD_none, Option.isSome_none] at hlk
            have HEQ2 : Hid (crashF l 0 (D.pend.take (i + 1)) (D.ground, D.ng) = crashF l 0 (D.pend.take i) (D.ground, D.ng)) := by rw [Hid, HEQ.out, hk]
            cases hpe : D.pend[i] with
            | wr a b =>
              rw [hpe] at hpn
              obtain ⟨ga, Ab, cb, hvq, _⟩ := hpn
              rw [hvq] at cp
              clear hpe
              go_wp2_with fail
              go_roundw
              case rel => exact ⟨i + 1, by go_num, by omega, ⟨HST.out.blk, by rw [HEQ2.out]; exact HST.out.ground, HST.out.pend, HST.out.left, HST.out.turn, HST.out.bgl⟩⟩
              case measure => simp [intOf]; omega
            | fr a =>
              rw [hpe] at hpn
              obtain ⟨ga, hvq, _⟩ := hpn
              rw [hvq] at cp
              clear hpe
              go_wp2_with fail
              go_roundw
              case rel => exact ⟨i + 1, by go_num, by omega, ⟨HST.out.blk, by rw [HEQ2.out]; exact HST.out.ground, HST.out.pend, HST.out.left, HST.out.turn, HST.out.bgl⟩⟩
              case measure => simp [intOf]; omega
          | some n =>
            rw [hk] at hlk
            simp only [Option.map_some, Option.getD_some, Option.isSome_some] at hlk
            have hnI : InI n := fstOf_in HIN.out hk
            rw [hk] at HEQ
            simp only at HEQ
            cases hpe : D.pend[i] with
            | wr a b =>
              rw [hpe] at hpn
              have HPN := Lib.hid hpn
              have HEQ2 : Hid (crashF l 0 (D.pend.take (i + 1)) (D.ground, D.ng) = doP (crashF l 0 (D.pend.take i) (D.ground, D.ng)) (.wr a b) n) := by rw [Hid, HEQ.out, hpe]
              have HPO2 : Hid (PnOk (.wr a b)) := by rw [Hid, ← hpe]; exact HOK.out.pend _ (List.getElem_mem hps)
              obtain ⟨ga, Ab, cb, hvq, _⟩ := hpn
              rw [hvq] at cp
              have HCC : Hid (∀ args, (∃ caps, vq = .func (Fn.func 89) #[] caps ∧ args = #[.map (some bg), .int .i64 n] ++ caps) → Calls Tryz.prog 89 args wr fun e w' => e = .returned (.tuple #[]) ∧ Secs w' bg (doP (crashF l 0 (D.pend.take i) (D.ground, D.ng)) (.wr a b) n).1 (doP (crashF l 0 (D.pend.take i) (D.ground, D.ng)) (.wr a b) n).2 ∧ wr.grownBy w' (some bg)) := fun args hx => closure_call HPN.out HPO2.out HST.out.ground HFK.out hnI hx
              clear hpe
              go_wp2_with fail
              refine Calls.mono (HCC.out _ ⟨_, hvq, rfl⟩) ?_
              rintro e w3 ⟨rfl, hs3, hg3⟩
              have HS3 := Lib.hid hs3
              have HG3 := Lib.hid hg3
              clear hs3 hg3
              go_wp2_with fail
              go_roundw
              case rel =>
                repeat (apply Exists.intro)
                apply And.intro
                rotate_left 1
                · rfl
                all_goals first
                  | exact ⟨i + 1, by go_num, by omega, crst_step HST.out (by rw [HEQ2.out]; exact HS3.out) HG3.out⟩
                  | exact undef
              case measure => simp [intOf]; omega
            | fr a =>
              rw [hpe] at hpn
              have HPN := Lib.hid hpn
              have HEQ2 : Hid (crashF l 0 (D.pend.take (i + 1)) (D.ground, D.ng) = doP (crashF l 0 (D.pend.take i) (D.ground, D.ng)) (.fr a) n) := by rw [Hid, HEQ.out, hpe]
              have HPO2 : Hid (PnOk (.fr a)) := by rw [Hid, ← hpe]; exact HOK.out.pend _ (List.getElem_mem hps)
              obtain ⟨ga, hvq, _⟩ := hpn
              rw [hvq] at cp
              have HCC : Hid (∀ args, (∃ caps, vq = .func (Fn.func 97) #[] caps ∧ args = #[.map (some bg), .int .i64 n] ++ caps) → Calls Tryz.prog 97 args wr fun e w' => e = .returned (.tuple #[]) ∧ Secs w' bg (doP (crashF l 0 (D.pend.take i) (D.ground, D.ng)) (.fr a) n).1 (doP (crashF l 0 (D.pend.take i) (D.ground, D.ng)) (.fr a) n).2 ∧ wr.grownBy w' (some bg)) := fun args hx => closure_call HPN.out HPO2.out HST.out.ground HFK.out hnI hx
              clear hpe
              go_wp2_with fail
              refine Calls.mono (HCC.out _ ⟨_, hvq, rfl⟩) ?_
              rintro e w3 ⟨rfl, hs3, hg3⟩
              have HS3 := Lib.hid hs3
              have HG3 := Lib.hid hg3
              clear hs3 hg3
              go_wp2_with fail
              go_roundw
              case rel =>
                repeat (apply Exists.intro)
                apply And.intro
                rotate_left 1
                · rfl
                all_goals first
                  | exact ⟨i + 1, by go_num, by omega, crst_step HST.out (by rw [HEQ2.out]; exact HS3.out) HG3.out⟩
                  | exact undef
              case measure => simp [intOf]; omega
        · obtain rfl : i = vs.length := by omega
          have HEQ : Hid (D.pend.take vs.length = D.pend) := by rw [Hid, HVL.out, List.take_length]
          clear hst hlenv
          go_wp2_with fail
          refine (copied_any bg _ _ wr HST.out.ground HFK.out).mono ?_
          rintro e w1 ⟨bo, rfl, hbo, hs, hbl⟩
          have b1 := HST.out.blk.later hbl
          have HB1 := Lib.hid b1
          have HS := Lib.hid hs
          have HBL := Lib.hid hbl
          have c2 : w1.cell? ⟨g, 2, none⟩ = some (.map (some bv)) := b1.cell 2
          have c4 : w1.cell? ⟨g, 4, none⟩ = some _ := b1.cell 4
          have f2 := b1.free 2
          have f4 := b1.free 4
          clear b1 hs hbl
          go_wp2_with fail
          go_end0
          have kd := kind_blk HB1.out
          have b2 := HB1.out.put 2 (.map (some bo))
          have kd1 := kind_blk b2
          have hk : ∀ {b n : Nat} {f : SF}, Secs w1 b f n → Secs ((w1.setCell ⟨g, 2, none⟩ (.map (some bo))).setCell ⟨g, 4, none⟩ (.slice none 0 0)) b f n := fun hs => by
            have h1 := hs.other (z := g) (fun e => by have := hs.kind; rw [e] at this; rw [kd] at this; cases this) (by rw [kd]; decide) (grown_cell (g := g) (i := 2) (.map (some bo)))
            exact h1.other (z := g) (fun e => by have := h1.kind; rw [e] at this; rw [kd1] at this; cases this) (by rw [kd1]; decide) (grown_cell (g := g) (i := 4) (.slice none 0 0))
          have gr := HST.out.ground.later HBL.out
          have grl := HST.out.ground.lt
          rw [HEQ.out] at gr HS
          have hszq := HST.out.turn.size
          refine ⟨rfl, ⟨g, bo, bg, .slice none 0 0⟩, ⟨b2.put 4 _, hk HS.out, hk gr, fun e => by simp only at e grl; omega, [], World.ownsRow_nil _ _ _ _, PnL.nil _⟩, rfl, ((HST.out.turn.trans (Turn.of_below (F := fun _ => False) HBL.out) (fun _ h => h.elim)).setCell (.inl (.inl rfl)) _).setCell (.inl (.inl rfl)) _, fun b hb => ?_⟩
          rcases hb with h | h | h | h
          · exact .inl (.inl h)
          · right; simp only at h; omega
          · exact .inl (.inr (.inr (.inl h)))
          · cases h
    · obtain ⟨b, o, rfl, hbs, hc⟩ := HA.out (by omega)
      have hjl : j < l.length := by omega
      have c0 : wr.cell? ⟨b, o + j * 2, none⟩ = some (.int .i64 l[j].1) := (hbl.cell (p := ⟨b, o + j * 2, none⟩) hbs).trans (hc j hjl).1
      have c1 : wr.cell? ⟨b, o + j * 2 + 1, none⟩ = some (.int .i64 l[j].2) := (hbl.cell (p := ⟨b, o + j * 2 + 1, none⟩) hbs).trans (hc j hjl).2
      have hj0 : (0 : Int) ≤ (j : Int) := by omega
      have hjc : (j : Int) < (l.length : Int) := by omega
      have HLM := Lib.hid hlm.out
      have hwj : IntKind.i64.wrap ((j : Int) - 1) = (j : Int) - 1 := IntWalk.i64_in _ (by omega)
      have hij := HIN.out _ (List.getElem_mem hjl)
      have HFD := Lib.hid (fun a => fstOf_drop hjl a)
      obtain ⟨w3, hrun3, hm3, ht3⟩ := (MpV.drew HM.out).put intTy miTy (by unfold maxLen; omega) hij.1 (.int .i64 l[j].2)
      have HM3 := Lib.hid hm3
      have HT3 := Lib.hid ht3
      have HBL := Lib.hid (hbl.drew)
      have c0d : wr.drew.cell? ⟨b, o + j * 2, none⟩ = some (.int .i64 l[j].1) := c0
      have c1d : wr.drew.cell? ⟨b, o + j * 2 + 1, none⟩ = some (.int .i64 l[j].2) := c1
      generalize l[j].1 = p1 at *
      generalize l[j].2 = p2 at *
      clear hc hlm hbl hm3 ht3 hij
      go_wp2_with fail
      go_still_tail 11, (by kernel_rfl)
      change wpList _ _ _ _ _ wr.drew
      generalize wr.drew = w2 at *
      go_wp2_with fail
      go_roundw
      case rel =>
        refine ⟨j, _, _, by simp, by omega, ?_, HM3.out, fun a ha => ?_, HBL.out.grown HT3.out.grown HBL.out.size (fun k hk => by injection hk with hk; omega)⟩
        · unfold nPut; split <;> omega
        · simp only [HFD.out a]
          by_cases hap : a = p1
          · simp only [hap, if_true]; rfl
          · simp only [hap, if_false]
            exact HLM.out a ha
      case measure => first | (simp [intOf]; done) | (simp [intOf]; omega)
end Go.Proofs.YtildohndbeagaaaGreatDoor

namespace Go.Proofs.YtildohndbeagaaaGreatDoor
open Go Go.RowKit
set_option linter.unusedVariables false

def GetVarPost (l : List UInt8) (w : World) (e : Ending) (w' : World) : Prop :=
  (∀ x n, getVarB l = .ok (x, n) → ∃ A k c, e = .returned (.tuple #[.int .u64 (x : Int), .slice A k c, .int .i64 0]) ∧ Ob 5 w' w.heap.size (.slice A k c) (l.drop n) ∧ Below w.heap.size w w') ∧
  (∀ er, getVarB l = .error er → e = .returned (.tuple #[.int .u64 0, .slice none 0 0, .int .i64 (er : Int)]) ∧ Below w.heap.size w w')

/-- One round of the reading: the byte that stands at i. -/
theorem getV_at {l : List UInt8} {i a : Nat} (h : i < l.length) {r : Except Nat (Nat × Nat)} (hg : getV i a (l.drop i) = r) :
    (if (i = 9 ∧ 1 < l[i].toNat) ∨ (0 < i ∧ l[i].toNat = 0) then .error 12 else if l[i].toNat < 128 then .ok (a + l[i].toNat * 128 ^ i, i + 1) else getV (i + 1) (a + (l[i].toNat % 128) * 128 ^ i) (l.drop (i + 1))) = r := by
  rw [← hg, List.drop_eq_getElem_cons h, getV]
theorem getV_end {l : List UInt8} {i a : Nat} (h : ¬ i < l.length) {r : Except Nat (Nat × Nat)} (hg : getV i a (l.drop i) = r) : r = .error 10 := by
  rw [← hg, List.drop_eq_nil_of_le (by omega), getV]
theorem post_err {l : List UInt8} {w : World} {er : Nat} (h : getVarB l = .error er) : GetVarPost l w (.returned (.tuple #[.int .u64 0, .slice none 0 0, .int .i64 (er : Int)])) w :=
  ⟨fun x n hx => (by rw [h] at hx; cases hx), fun er' h' => by rw [h] at h'; cases h'; exact ⟨rfl, Below.refl _ _⟩⟩
theorem post_okv {l : List UInt8} {w w' : World} {x n : Nat} (h : getVarB l = .ok (x, n)) {A : Option Addr} {k c : Nat} (hown : Ob 5 w' w.heap.size (.slice A k c) (l.drop n)) (hb : Below w.heap.size w w') :
    GetVarPost l w (.returned (.tuple #[.int .u64 (x : Int), .slice A k c, .int .i64 0])) w' :=
  ⟨fun x' n' hx => (by rw [h] at hx; cases hx; exact ⟨A, k, c, rfl, hown, hb⟩), fun er' h' => by rw [h] at h'; cases h'⟩

set_option maxHeartbeats 1000000 in
set_option maxRecDepth 100000 in
theorem getVar_any (S : Nat → Prop) (v0 : Value) (l : List UInt8) (w : World) (hl : l.length ≤ 1099511627776) (hr : Bs S w v0 l) :
    Calls Tryz.prog 92 #[v0] w (GetVarPost l w) := by
  have HR := Lib.hid hr
  obtain ⟨A, c, rfl, hlc, hcm, hA0, hA⟩ := hr.at
  have HA := Lib.hid hA
  clear hA hr
  go_enter Tryz.func92, Tryz.ntmps92
  go_wp2_with fail
  go_loop [5, 10] (fun av iv => ∃ (i a : Nat), iv = .int .i64 (i : Int) ∧ av = .int .u64 (a : Int) ∧ i ≤ l.length ∧ i ≤ 9 ∧ Hid (a < 128 ^ i) ∧ Hid (getV i a (l.drop i) = getVarB l)) (fun _ iv => l.length - (intOf iv).toNat)
  case atStart => exact ⟨0, 0, rfl, rfl, by omega, by omega, by simp [Hid], by simp [getVarB, Hid]⟩
  case round =>
    obtain ⟨i, a, rfl, rfl, hi, hi9, HA2, hg⟩ := hrel
    by_cases hil : i < l.length
    · obtain ⟨b, o, rfl, _, hcell⟩ := HA.out (by omega)
      have hc := hcell i hil
      clear hcell HA
      have HG := Lib.hid (getV_at hil hg.out)
      clear hg
      obtain ⟨x, hx⟩ : ∃ x, x = l[i].toNat := ⟨_, rfl⟩
      have hx256 : x < 256 := hx ▸ l[i].toNat_lt
      rw [← hx] at hc HG
      clear hx
      by_cases h1 : i = 9 ∧ 1 < x
      · have t1 : ((i : Int) == 9) = true := by simp; omega
        have t2 : (1 : Int) < (x : Int) := by omega
        have H1 := Lib.hid h1
        clear h1
        go_wp2_with fail
        go_ret3
        refine post_err ?_
        have h := HG.out
        rw [if_pos (.inl H1.out)] at h
        exact h.symm
      · by_cases h2 : 0 < i ∧ x = 0
        · have t1 : ((i : Int) == 9) = false ∨ ((i : Int) == 9) = true := by cases ((i : Int) == 9) <;> simp
          have t2 : ((x : Int) == 0) = true := by simp; omega
          have t3 : ¬ (1 : Int) < (x : Int) := by omega
          have H2 := Lib.hid h2
          have t0 : (0 : Int) < (i : Int) := by omega
          clear h2
          rcases t1 with t1 | t1
          all_goals
            go_wp2_with fail
            go_ret3
            refine post_err ?_
            have h := HG.out
            rw [if_pos (.inr H2.out)] at h
            exact h.symm
        · by_cases h3 : x < 128
          · have hok : getVarB l = .ok (a + x * 128 ^ i, i + 1) := by
              have h := HG.out
              rw [if_neg (by omega), if_pos h3] at h
              exact h.symm
            have hb := (getVarB_bound hok).1
            have hor := shl_or a x i HA2.out (by omega) (by omega)
            obtain ⟨y, hy⟩ : ∃ y, y = a + x * 128 ^ i := ⟨_, rfl⟩
            rw [← hy] at hor hok
            have HO := Lib.hid hok
            clear hok hb hy
            have tx : ((x : Int) < 128) := by omega
            have hdr : l.length - (i + 1) ≤ l.length := by omega
            have hcut := Lib.hid (Bs.cut HR.out (show i + 1 ≤ l.length from hil))
            by_cases h9 : i = 9
            case' pos =>
              have t1 : ((i : Int) == 9) = true := by simp; omega
              have t3 : ¬ (1 : Int) < (x : Int) := by omega
              have t0 : (0 : Int) < (i : Int) := by omega
              have t2 : ((x : Int) == 0) = false := by simp; omega
              clear h9 h1 h2
            case' neg =>
              have t1 : ((i : Int) == 9) = false := by simp; omega
              clear h9
              by_cases h0 : 0 < i
              case' pos =>
                have t0 : (0 : Int) < (i : Int) := by omega
                have t2 : ((x : Int) == 0) = false := by simp; omega
              case' neg =>
                have t0 : ¬ (0 : Int) < (i : Int) := by omega
            all_goals
              try clear h1 h2
              go_wp2_with (at_builtin; go_loud (refine wpList_append_bs _ rfl (.tmp 50) (.tmp 54) elemU8 rfl (Ob.made _ _ w.heap.size (by simp) (by simp)) (Sl.alloc1 hcut.out _) rfl rfl (by simp; omega) (by simp) ?_); intro A1 k1 c1 w1 hown1 hg1 hat1)
              all_goals
                go_ret3
                exact post_okv HO.out (by simpa using hown1) (below_grown_own ((Below.refl _ _).alloc (Nat.le_refl _) _) (Ob.made _ _ w.heap.size (by simp) (by simp)) hg1 (by simp))
          · have hlow : x % 128 < 128 := by omega
            have hne : ¬ i = 9 := by omega
            have hst : getV (i + 1) (a + x % 128 * 128 ^ i) (l.drop (i + 1)) = getVarB l := by
              have h := HG.out
              rw [if_neg (by omega), if_neg h3] at h
              exact h
            have hp : a + x % 128 * 128 ^ i < 128 ^ (i + 1) := by
              have h1 : x % 128 * 128 ^ i ≤ 127 * 128 ^ i := Nat.mul_le_mul_right _ (by omega)
              have := HA2.out
              rw [Nat.pow_succ]; omega
            have h8 : (128 : Nat) ^ (i + 1) ≤ 128 ^ 9 := Nat.pow_le_pow_right (by omega) (by omega)
            have hand := and127 x hx256
            have hor := shl_or a (x % 128) i HA2.out (by unfold U64; omega) (by unfold U64; omega)
            obtain ⟨q, hq⟩ : ∃ q, q = x % 128 := ⟨_, rfl⟩
            rw [← hq] at hor hand hst hp hlow
            obtain ⟨y, hy⟩ : ∃ y, y = a + q * 128 ^ i := ⟨_, rfl⟩
            rw [← hy] at hor hst hp
            have t1 : ((i : Int) == 9) = false := by simp; omega
            have tx : ¬ ((x : Int) < 128) := by omega
            have t2 : ((x : Int) == 0) = false := by simp; omega
            have HS := Lib.hid hst
            have HP := Lib.hid hp
            clear hst hp hy hq h8 h1 h2 HG HA2
            by_cases h0 : 0 < i
            all_goals
              go_wp2_with fail
              go_round
              case rel => exact ⟨i + 1, y, by go_num, rfl, by omega, by omega, HP, HS⟩
              case measure => simp [intOf]; omega
    · have h := getV_end hil hg.out
      have HO := Lib.hid h
      clear h hg
      go_wp2_with fail
      go_ret3
      exact post_err HO.out

set_option maxHeartbeats 400000 in
theorem get_range (v0 : Value) (n : Int) (w : World) (hn : n < 1 ∨ 8 < n) :
    Calls Tryz.prog 78 #[v0, .int .i64 n] w fun e w' => e = .returned (.tuple #[.int .u64 0, .slice none 0 0, .int .i64 11]) ∧ w = w' := by
  rcases hn with hn | hn
  · go_enter Tryz.func78, Tryz.ntmps78
    go_wp2
    go_ret3
    exact ⟨rfl, rfl⟩
  · have h1 : ¬ n < 1 := by omega
    go_enter Tryz.func78, Tryz.ntmps78
    go_wp2
    go_ret3
    exact ⟨rfl, rfl⟩

set_option maxHeartbeats 400000 in
theorem get_short (A : Option Addr) (k c n : Nat) (w : World) (hn : 1 ≤ n) (hn8 : n ≤ 8) (hk : k < n) :
    Calls Tryz.prog 78 #[.slice A k c, .int .i64 n] w fun e w' => e = .returned (.tuple #[.int .u64 0, .slice none 0 0, .int .i64 10]) ∧ w = w' := by
  have h1 : ¬ (n : Int) < 1 := by omega
  have h2 : ¬ 8 < (n : Int) := by omega
  go_enter Tryz.func78, Tryz.ntmps78
  go_wp2
  go_ret3
  exact ⟨rfl, rfl⟩

set_option maxHeartbeats 1000000 in
set_option maxRecDepth 100000 in
theorem get_ok (S : Nat → Prop) (v0 : Value) (l : List UInt8) (n : Nat) (w : World) (hn : 1 ≤ n) (hn8 : n ≤ 8) (hk : n ≤ l.length) (hl : l.length ≤ 1099511627776) (hr : Bs S w v0 l) :
    Calls Tryz.prog 78 #[v0, .int .i64 n] w fun e w' => ∃ A k c, e = .returned (.tuple #[.int .u64 (deB (l.take n) : Int), .slice A k c, .int .i64 0]) ∧ Ob 5 w' w.heap.size (.slice A k c) (l.drop n) ∧ Below w.heap.size w w' := by
  have h1 : ¬ (n : Int) < 1 := by omega
  have h2 : ¬ 8 < (n : Int) := by omega
  have HR := Lib.hid hr
  obtain ⟨A, c, rfl, hlc, hcm, hA0, hA⟩ := hr.at
  obtain ⟨b, o, rfl, _, hcell⟩ := hA (by omega)
  have HA := Lib.hid hcell
  clear hA hr hcell
  go_enter Tryz.func78, Tryz.ntmps78
  go_wp2_with fail
  go_loop [7, 22] (fun av iv => ∃ (i a : Nat), iv = .int .i64 (i : Int) ∧ av = .int .u64 (a : Int) ∧ i ≤ n ∧ Hid (a = deB (l.take i))) (fun _ iv => n - (intOf iv).toNat)
  case atStart => exact ⟨0, 0, rfl, rfl, by omega, by simp [Hid, deB]⟩
  case round =>
    obtain ⟨i, a, rfl, rfl, hi, hg⟩ := hrel
    by_cases hin : i < n
    · have hc := HA.out i (by omega)
      clear HA
      obtain ⟨x, hx⟩ : ∃ x, x = l[i].toNat := ⟨_, rfl⟩
      have hx256 : x < 256 := hx ▸ l[i].toNat_lt
      have hs := deB_take_succ (show i < l.length by omega)
      rw [← hx] at hc hs
      have hor := shl8_or a x i (by rw [hg.out]; exact deB_take_lt l i) (by omega) hx256
      obtain ⟨y, hy⟩ : ∃ y, y = a * 256 + x := ⟨_, rfl⟩
      rw [← hy] at hor
      have HY := Lib.hid (show y = deB (l.take (i + 1)) by rw [hs, ← hg.out]; exact hy)
      clear hs hy hx
      go_wp2_with fail
      go_round
      case rel => exact ⟨i + 1, y, by go_num, rfl, by omega, HY⟩
      case measure => simp [intOf]; omega
    · obtain rfl : i = n := by omega
      have hcut := Lib.hid (Bs.cut HR.out hk)
      go_wp2_with (at_builtin; go_loud (refine wpList_append_bs _ rfl (.tmp 35) (.tmp 38) elemU8 rfl (Ob.made _ _ w.heap.size (by simp) (by simp)) (Sl.alloc1 hcut.out _) rfl rfl (by simp; omega) (by simp) ?_); intro A1 k1 c1 w1 hown1 hg1 hat1)
      all_goals
        go_ret3
        have ha := hg.out
        rw [← ha]
        exact ⟨A1, k1, c1, rfl, by simpa using hown1, below_grown_own ((Below.refl _ _).alloc (Nat.le_refl _) _) (Ob.made _ _ w.heap.size (by simp) (by simp)) hg1 (by simp)⟩

end Go.Proofs.YtildohndbeagaaaGreatDoor

namespace Go.Proofs.YtildohndbeagaaaGreatDoor
open Go Go.RowKit
set_option linter.unusedVariables false

theorem open_iff (l : List UInt8) (h : 4 ≤ l.length) : (l.take (l.length - 4) ++ beB (sumOf (l.take (l.length - 4))).toNat 4 = l) ↔ deB ((l.drop (l.length - 4)).take 4) = (sumOf (l.take (l.length - 4))).toNat := by
  have hd : (l.drop (l.length - 4)).length = 4 := by rw [List.length_drop]; omega
  have ht : (l.drop (l.length - 4)).take 4 = l.drop (l.length - 4) := List.take_of_length_le (by omega)
  rw [ht]
  constructor
  · intro he
    have : l.drop (l.length - 4) = beB (sumOf (l.take (l.length - 4))).toNat 4 := by
      have h2 : l.take (l.length - 4) ++ beB (sumOf (l.take (l.length - 4))).toNat 4 = l.take (l.length - 4) ++ l.drop (l.length - 4) := by rw [he, List.take_append_drop]
      exact (List.append_cancel_left h2).symm
    rw [this, deB_beB 4 _ (sum4 _)]
  · intro he
    have := beB_deB (l.drop (l.length - 4))
    rw [hd] at this
    rw [← he, this, List.take_append_drop]

def OpenPost (l : List UInt8) (w : World) (e : Ending) (w' : World) : Prop :=
  (∀ b, openB l = .ok b → ∃ A k c, e = .returned (.tuple #[.slice A k c, .int .i64 0]) ∧ Ob 5 w' w.heap.size (.slice A k c) b) ∧
  (∀ er, openB l = .error er → e = .returned (.tuple #[.slice none 0 0, .int .i64 (er : Int)])) ∧ Below w.heap.size w w'

set_option maxHeartbeats 1000000 in
set_option maxRecDepth 100000 in
theorem open_any (S : Nat → Prop) (v0 : Value) (l : List UInt8) (w : World) (hl : l.length ≤ 1099511627776) (hr : Bs S w v0 l) :
    Calls Tryz.prog 79 #[v0] w (OpenPost l w) := by
  have HR := Lib.hid hr
  have HR2 : Hid (Bs (fun b => b < w.heap.size) w v0 l) := (Sl.lt hr (by omega)).more (fun _ h => h.2)
  obtain ⟨A, c, rfl, hlc, hcm, hA0, hA⟩ := hr.at
  by_cases h4 : l.length < 4
  · clear hA hr hA0
    have HO : Hid (openB l = .error 20) := by unfold openB; rw [if_pos h4]; rfl
    go_enter Tryz.func79, Tryz.ntmps79
    go_wp2_with fail
    go_ret2
    exact ⟨fun b hb => (by rw [HO.out] at hb; cases hb), fun er her => (by rw [HO.out] at her; cases her; rfl), Below.refl _ _⟩
  · obtain ⟨b, o, rfl, _, _⟩ := hA (by omega)
    clear hA hA0
    have h4' : 4 ≤ l.length := by omega
    have HI := Lib.hid (open_iff l h4')
    have hn4 : (l.drop (l.length - 4)).length = 4 := by rw [List.length_drop]; omega
    have hc1 := Bs.pre hr (Nat.sub_le l.length 4)
    have HC1 := Lib.hid hc1
    have hc2 : Bs (fun b => b < w.heap.size) w (.slice (some ⟨b, o + (l.length - 4), none⟩) 4 (c - (l.length - 4))) (l.drop (l.length - 4)) := by
      have h := Bs.cut HR2.out (Nat.sub_le l.length 4)
      rw [if_neg (by omega), show l.length - (l.length - 4) = 4 from by omega] at h
      exact h
    have HC2 := Lib.hid hc2
    have e4 : l.length - (l.length - 4) = 4 := by omega
    have E4 := Lib.hid e4
    have hlt : (l.take (l.length - 4)).length = l.length - 4 := by rw [List.length_take]; omega
    have HLT := Lib.hid hlt
    have HO : Hid (openB l = if l.take (l.length - 4) ++ beB (sumOf (l.take (l.length - 4))).toNat 4 = l then .ok (l.take (l.length - 4)) else .error 21) := by unfold openB; rw [if_neg h4]; rfl
    have hne : ¬ c = l.length - 4 := by omega
    have HN4 := Lib.hid hn4
    clear hr hc1 hc2 h4 e4 hlt hn4
    go_enter Tryz.func79, Tryz.ntmps79
    go_wp2_with (at_builtin; go_loud (refine wpList_append_bs _ rfl (.tmp 11) (.tmp 16) elemU8 rfl (Ob.made _ _ w.heap.size (Nat.le_refl _) (by simp)) (Sl.alloc1 HC1.out _) rfl rfl (by rw [HLT.out]; simp; omega) (by simp) ?_); intro A1 k1 c1 w1 hown1 hg1 hat1)
    have hbl1 : Below w.heap.size w w1 := below_grown_own ((Below.refl _ _).alloc (Nat.le_refl _) _) (Ob.made _ _ w.heap.size (Nat.le_refl _) (by simp)) hg1 (by simp)
    have hs1 := hbl1.size
    have hown1' : Ob 5 w1 w.heap.size (.slice A1 k1 c1) (l.take (l.length - 4)) := hown1
    have HR1 : Hid (Bs (fun b => b < w.heap.size) w1 _ _) := Sl.below HC2.out hbl1 (fun _ h => h)
    have HW1 := Lib.hid hown1'
    clear hown1 hg1 hat1 hown1'
    rw [E4.out]
    refine (get_ok _ _ (l.drop (l.length - 4)) 4 w1 (by omega) (by omega) (by rw [HN4.out]; omega) (by rw [HN4.out]; omega) HR1.out).mono ?_
    rintro e w2 ⟨A2, k2, c2, rfl, _, hbl2⟩
    have HW2 := Lib.hid (HW1.out.later hbl2)
    have hbl2' := hbl1.trans (hbl2.mono hs1)
    clear hbl2 hbl1
    go_wp2_with fail
    refine (of_any _ _ (l.take (l.length - 4)) w2 (by rw [HLT.out]; omega) HW2.out.bs).mono ?_
    rintro e w3 ⟨rfl, hbl3⟩
    have HW3 := Lib.hid (HW2.out.later hbl3)
    have hbl3' := hbl2'.trans (hbl3.mono hbl2'.size)
    clear hbl3 hbl2'
    by_cases hd : deB ((l.drop (l.length - 4)).take 4) = (sumOf (l.take (l.length - 4))).toNat
    · have HO2 : Hid (openB l = .ok (l.take (l.length - 4))) := by rw [Hid, HO.out, if_pos (HI.out.2 hd)]
      have HD := Lib.hid hd
      rw [hd]
      clear hd
      go_wp2_with fail
      go_ret2
      exact ⟨fun b hb => (by rw [HO2.out] at hb; cases hb; exact ⟨A1, k1, c1, rfl, HW3.out⟩), fun er her => (by rw [HO2.out] at her; cases her), hbl3'⟩
    · have HO2 : Hid (openB l = .error 21) := by rw [Hid, HO.out, if_neg (fun h => hd (HI.out.1 h))]
      generalize deB ((l.drop (l.length - 4)).take 4) = dv at *
      have t1 : ((dv : Int) == ((sumOf (l.take (l.length - 4))).toNat : Int)) = false := by rw [beq_eq_false_iff_ne]; omega
      have t2 : ((dv : Int) != ((sumOf (l.take (l.length - 4))).toNat : Int)) = true := by rw [bne_iff_ne]; omega
      clear hd HI
      go_wp2_with fail
      go_ret2
      exact ⟨fun b hb => (by rw [HO2.out] at hb; cases hb), fun er her => (by rw [HO2.out] at her; cases her; rfl), hbl3'⟩

theorem ex_sum9 : sumOf [49, 50, 51, 52, 53, 54, 55, 56, 57] = 0xfc891918#32 := by decide +kernel
theorem ex_sum0 : sumOf [] = 0#32 := by decide +kernel
theorem ex_more : sumMore (sumOf [49, 50]) [51, 52, 53, 54, 55, 56, 57] = 0xfc891918#32 := by decide +kernel
theorem openB_seal (l : List UInt8) : openB (l ++ beB (sumOf l).toNat 4) = .ok l := by
  have hl : (l ++ beB (sumOf l).toNat 4).length - 4 = l.length := by rw [List.length_append, beB_length]; omega
  unfold openB
  rw [hl, List.take_left, if_neg (by rw [List.length_append, beB_length]; omega), if_pos rfl]

end Go.Proofs.YtildohndbeagaaaGreatDoor

namespace Go.Proofs.YtildohndbeagaaaGreatDoor
open Go Go.RowKit
set_option linter.unusedVariables false

/-- A record's two cells; a record by value. -/
def recC (r : Nat × List UInt8) : Array Value := #[.int .u64 (r.1 : Int), .string (st r.2)]
def recV (r : Nat × List UInt8) : Value := .agg #[.int .u64 (r.1 : Int), .string (st r.2)]

set_option maxHeartbeats 1000000 in
set_option maxRecDepth 100000 in
theorem fields_any (q : Nat) (t : List UInt8) (w : World) (hq : q < U64) (ht : t.length ≤ 65536) :
    Calls Tryz.prog 82 #[.agg #[.int .u64 (q : Int), .string (st t)]] w fun e w' => ∃ A k c, e = .returned (.slice A k c) ∧ Ob 5 w' w.heap.size (.slice A k c) (recF q t) ∧ Below w.heap.size w w' := by
  have hb0 := Blk.new w 85 #[.int .u64 (q : Int), .string (st t)]
  have HQ := Lib.hid hq
  go_enter Tryz.func82, Tryz.ntmps82
  go_wp2_with fail
  refine (write_any _).mono ?_
  rintro e w1 ⟨rfl, hw1, hbl1, hsz1⟩
  have hb1 := hb0.later hbl1
  have q1 : Below w.heap.size w w1 := ((Below.refl w.heap.size w).alloc (Nat.le_refl _) _).trans (hbl1.mono (by simp))
  generalize hG : (w.alloc (.cells #[.int .u64 (q : Int), .string (st t)] 85)).heap.size = G at *
  have hG' : w.heap.size < G := by rw [← hG]; simp
  have hG1 : G < w1.heap.size := by omega
  have HW1 := Lib.hid hw1
  have d0 : w1.cell? ⟨w.heap.size, 0, none⟩ = some (.int .u64 (q : Int)) := hb1.cell 0
  clear hw1 hb0 hq hG hbl1 hsz1
  go_wp2_with fail
  refine (wnum_new G G G [] [q] _ _ (HW1.out.alloc _) (by simp; omega) (fun _ => Nat.le_refl _) (by simp; omega) (by intro y hy; simp at hy; subst hy; exact HQ.out) (by simp) (Sl.new1 w1 _ _ (by simp) ⟨by omega, by simp⟩)).mono ?_
  rintro e w2 ⟨rfl, hw2, hg2⟩
  simp only [List.flatMap_cons, List.flatMap_nil, List.append_nil, List.nil_append] at hw2
  have hb2 := (hb1.alloc (.cells #[.int .u64 (q : Int)] 31)).grown hg2 (by simp; omega)
  have q2 : Below w.heap.size w w2 := (q1.alloc (by omega) _).trans (grown_below hg2 (by omega) (by simp; omega))
  have hs2 := q2.size
  have hg2s : w1.heap.size + 1 ≤ w2.heap.size := by have := hg2.size; simpa using this
  have HW2 := Lib.hid hw2
  have hv10 := varB_le10 HQ.out
  have d1 : w2.cell? ⟨w.heap.size, 1, none⟩ = some (.string (st t)) := hb2.cell 1
  clear hw2 hb1 hg2 HW1 d0
  go_wp2_with fail
  refine (wtext_any G G (varB q) [t] _ _ (HW2.out.alloc _) (by simp; omega) (Nat.le_refl _) (by intro y hy; simp at hy; subst hy; exact ht) (by simp; omega) (Sl.new1 w2 _ _ (by simp) ⟨by omega, by simp⟩)).mono ?_
  rintro e w3 ⟨rfl, hw3, hg3⟩
  simp only [List.flatMap_cons, List.flatMap_nil, List.append_nil] at hw3
  have q3 : Below w.heap.size w w3 := (q2.alloc (by omega) _).trans (grown_below hg3 (by omega) (by simp; omega))
  have hs3 := q3.size
  have HW3 : Hid (Wr w3 G G (recF q t)) := hw3
  have hl3 := textB_len ht
  clear hw3 hb2 hg3 HW2 d1
  go_wp2_with fail
  refine (wbytes_any G G (recF q t) w3 HW3.out (by unfold recF; unfold textB at hl3; rw [List.length_append]; omega)).mono ?_
  rintro e w4 ⟨A4, k4, c4, rfl, hown4, hbl4⟩
  go_wp2_with fail
  go_ret
  exact ⟨A4, k4, c4, rfl, hown4.lower hs3, q3.trans (hbl4.mono hs3)⟩

/-- What record.Put gives: the bytes, or what is wrong. -/
def RPutPost (q : Nat) (t : List UInt8) (w : World) (e : Ending) (w' : World) : Prop :=
  (t.length ≤ 32768 → ∃ A k c, e = .returned (.tuple #[.slice A k c, .int .i64 0]) ∧ Ob 5 w' w.heap.size (.slice A k c) (recB q t)) ∧
  (32768 < t.length → e = .returned (.tuple #[.slice none 0 0, .int .i64 70])) ∧ Below w.heap.size w w'

set_option maxHeartbeats 1000000 in
set_option maxRecDepth 100000 in
theorem rput_any (q : Nat) (t : List UInt8) (w : World) (hq : q < U64) (hb : BitsOk w) (ht : t.length ≤ 1099511627776) :
    Calls Tryz.prog 58 #[.agg #[.int .u64 (q : Int), .string (st t)]] w (RPutPost q t w) := by
  have hb0 := Blk.new w 85 #[.int .u64 (q : Int), .string (st t)]
  have HQ := Lib.hid hq
  have d1 : (w.alloc (.cells #[.int .u64 (q : Int), .string (st t)] 85)).cell? ⟨w.heap.size, 1, none⟩ = some (.string (st t)) := hb0.cell 1
  have q0 : Below w.heap.size w (w.alloc (.cells #[.int .u64 (q : Int), .string (st t)] 85)) := (Below.refl _ _).alloc (Nat.le_refl _) _
  by_cases hl : 32768 < t.length
  · go_enter Tryz.func58, Tryz.ntmps58
    go_wp2_with fail
    go_ret2
    exact ⟨fun h => (by omega), fun _ => rfl, q0⟩
  · have hb' := Lib.hid (hb.later q0)
    have hF := Lib.hid (recF_len HQ.out (show t.length ≤ 32768 by omega))
    clear hb
    have c0 : (w.alloc (.cells #[.int .u64 (q : Int), .string (st t)] 85)).cell? ⟨w.heap.size, 0, none⟩ = some (.int .u64 (q : Int)) := hb0.cell 0
    go_enter Tryz.func58, Tryz.ntmps58
    go_wp2_with fail
    refine (fields_any q t _ HQ.out (by omega)).mono ?_
    rintro e w1 ⟨A1, k1, c1, rfl, hown1, hbl1⟩
    have HO1 := Lib.hid hown1
    have HB1 := Lib.hid (hb'.out.later hbl1)
    have q1 := q0.trans (hbl1.mono q0.size)
    have hs1 := q1.size
    clear hown1 hbl1
    go_wp2_with fail
    refine (seal_any _ _ (recF q t) w1 HB1.out (by have := hF.out; omega) HO1.out.bs).mono ?_
    rintro e w2 ⟨A2, k2, c2, rfl, hown2, hbl2⟩
    obtain rfl := hown2.len
    have HO2 : Hid (Ob 5 w2 w1.heap.size (.slice A2 (recS q t).length c2) (recS q t)) := hown2
    have HB2 := Lib.hid (HB1.out.later hbl2)
    have q2 := q1.trans (hbl2.mono hs1)
    have hs2 := q2.size
    have HL : (recS q t).length ≤ 32804 := by rw [recS_len]; have := hF.out; omega
    have hwr : IntKind.u64.wrap ((recS q t).length : Int) = ((recS q t).length : Int) := wrap_u64 (by omega) (by unfold U64; omega)
    rw [show recF q t ++ beB (sumOf (recF q t)).toNat 4 = recS q t from rfl]
    clear hown2 hbl2 HO1 HB1
    have HR : Hid (beB (recS q t).length 4 ++ recS q t = recB q t) := rfl
    generalize recS q t = sl at *
    go_wp2_with fail
    refine (put_ok (fun _ => True) _ [] sl.length 4 w2 (by omega) (by omega) (by unfold U64; omega) (fun _ => by omega) HB2.out (by simp) (Bs.nilv _ _)).mono ?_
    rintro e w3 ⟨A3, k3, c3, rfl, hown3, hbl3⟩
    rw [List.nil_append] at hown3
    have HO3 := Lib.hid (HO2.out.later hbl3)
    have q3 := q2.trans (hbl3.mono hs2)
    have hs3 := hbl3.size
    clear hbl3
    go_wp2_with (at_builtin; go_loud (refine wpList_append_bs _ rfl (.tmp 21) (.tmp 22) elemU8 rfl hown3 HO3.out.bs rfl rfl (by rw [beB_length]; omega) hs3 ?_); intro A4 k4 c4 w4 hown4 hg4 hat4)
    go_ret2
    rw [HR.out] at hown4
    exact ⟨fun _ => ⟨A4, k4, c4, rfl, hown4.lower hs2⟩, fun h => (by omega), q3.grown hg4 (by omega) (fun k hk => by have := (hown3.lt k hk).1; omega)⟩

end Go.Proofs.YtildohndbeagaaaGreatDoor

namespace Go.Proofs.YtildohndbeagaaaGreatDoor
open Go Go.RowKit
set_option linter.unusedVariables false

/-- A reader: what hasn't been taken yet, what went wrong first. -/
def Rd (w : World) (g B : Nat) (l : List UInt8) (err : Nat) : Prop := ∃ A k c, Blk w g 140 #[.slice A k c, .int .i64 (err : Int)] ∧ Ub w B (.slice A k c) l
theorem Rd.later {w w' : World} {g B : Nat} {l : List UInt8} {err : Nat} (h : Rd w g B l err) (hb : Below w.heap.size w w') : Rd w' g B l err := by
  obtain ⟨A, k, c, h1, h2⟩ := h
  exact ⟨A, k, c, h1.later hb, h2.later hb⟩
theorem Rd.lower {w : World} {g B B' : Nat} {l : List UInt8} {err : Nat} (h : Rd w g B l err) (hB : B' ≤ B) : Rd w g B' l err := by
  obtain ⟨A, k, c, h1, h2⟩ := h
  exact ⟨A, k, c, h1, h2.lower hB⟩
theorem Rd.lt {w : World} {g B : Nat} {l : List UInt8} {err : Nat} (h : Rd w g B l err) : g < w.heap.size := by
  obtain ⟨A, k, c, h1, h2⟩ := h
  exact h1.lt
/-- A block of another type is written. -/
theorem Rd.far {w : World} {g B : Nat} {l : List UInt8} {err : Nat} (h : Rd w g B l err) {g' : Nat} {t : TypeId} {cs : Array Value} (hb : Blk w g' t cs) (h1 : t ≠ 140) (h2 : 5 ≠ t) (i : Nat) (u : Value) : Rd (w.setCell ⟨g', i, none⟩ u) g B l err := by
  obtain ⟨A, k, c, h3, h4⟩ := h
  exact ⟨A, k, c, h3.far (p := ⟨g', i, none⟩) (fun e => Blk.ne h3 hb (fun h => h1 h.symm) e) _, h4.beside hb h2 (grown_put _ _ _ _)⟩

set_option maxHeartbeats 1000000 in
theorem read_any (S : Nat → Prop) (v0 : Value) (l : List UInt8) (w : World) (hl : l.length ≤ 1099511627776) (hr : Bs S w v0 l) :
    Calls Tryz.prog 51 #[v0] w fun e w' => ∃ g, e = .returned (.pointer (some ⟨g, 0, none⟩)) ∧ w.heap.size ≤ g ∧ Rd w' g w.heap.size l 0 ∧ Below w.heap.size w w' := by
  have HR := Lib.hid hr
  obtain ⟨A, c, rfl, hlc, hcm, hA0, hA⟩ := hr.at
  clear hA hr hA0
  go_enter Tryz.func51, Tryz.ntmps51
  go_wp2_with (at_builtin; (refine wpList_append_bs _ rfl (.tmp 3) (.tmp 4) elemU8 rfl (Ob.made _ _ w.heap.size (Nat.le_refl _) (by simp)) (Sl.alloc1 HR.out _) rfl rfl (by simp; omega) (by simp) ?_); intro A1 k1 c1 w1 hown1 hg1 hat1)
  have hbl1 : Below w.heap.size w w1 := below_grown_own ((Below.refl _ _).alloc (Nat.le_refl _) _) (Ob.made _ _ w.heap.size (Nat.le_refl _) (by simp)) hg1 (by simp)
  have hs1 := hbl1.size
  go_ret
  refine ⟨w1.heap.size, rfl, hs1, ⟨A1, k1, c1, Blk.new _ _ _, ?_⟩, hbl1.alloc hs1 _⟩
  exact (Ub.of_own (by simpa using hown1)).later ((Below.refl _ _).alloc (Nat.le_refl _) _)

set_option maxHeartbeats 400000 in
theorem fail_any (g B : Nat) (l : List UInt8) (err e0 : Nat) (w : World) (hr : Rd w g B l err) (he : e0 ≤ 1000) (he2 : err ≤ 1000) :
    Calls Tryz.prog 93 #[.pointer (some ⟨g, 0, none⟩), .int .i64 e0] w fun e w' => e = .returned (.bool false) ∧ Rd w' g B l (if err = 0 then e0 else err) ∧ w.grownBy w' (some g) := by
  have HR := Lib.hid hr
  obtain ⟨A, k, c, hb, hown⟩ := hr
  have d1 : w.cell? ⟨g, 1, none⟩ = some (.int .i64 (err : Int)) := hb.cell 1
  have f1 := hb.free 1
  by_cases h0 : err = 0
  · subst h0
    go_enter Tryz.func93, Tryz.ntmps93
    go_wp2_with fail
    go_ret
    exact ⟨rfl, ⟨A, k, c, hb.put 1 _, hown.beside hb (by decide) (grown_put _ _ _ _)⟩, grown_put _ _ _ _⟩
  · have t0 : ((err : Int) == 0) = false := by rw [beq_eq_false_iff_ne]; omega
    go_enter Tryz.func93, Tryz.ntmps93
    go_wp2_with fail
    go_ret
    exact ⟨rfl, HR.out, World.grownBy.refl _ _⟩

def rdErr (e : Nat) : Nat := if e = 10 then 30 else e
theorem getV_errs : ∀ (l : List UInt8) (i v er : Nat), getV i v l = .error er → er = 10 ∨ er = 12
  | [], i, v, er, h => by rw [getV] at h; cases h; exact .inl rfl
  | b :: l, i, v, er, h => by
    rw [getV] at h
    split at h
    · cases h; exact .inr rfl
    · split at h
      · cases h
      · exact getV_errs l _ _ er h
set_option maxHeartbeats 1000000 in
set_option maxRecDepth 100000 in
theorem rtake_old (g B : Nat) (l : List UInt8) (err : Nat) (w : World) (hr : Rd w g B l err) (h0 : err ≠ 0) :
    Calls Tryz.prog 74 #[.pointer (some ⟨g, 0, none⟩)] w fun e w' => e = .returned (.tuple #[.int .u64 0, .slice none 0 0, .bool false]) ∧ w = w' := by
  obtain ⟨A, k, c, hb, hown⟩ := hr
  have d1 : w.cell? ⟨g, 1, none⟩ = some (.int .i64 (err : Int)) := hb.cell 1
  have t0 : ((err : Int) != 0) = true := by rw [bne_iff_ne]; omega
  clear hb hown
  go_enter Tryz.func74, Tryz.ntmps74
  go_wp2_with fail
  go_ret3
  exact ⟨rfl, rfl⟩
set_option maxHeartbeats 1000000 in
set_option maxRecDepth 100000 in
theorem rtake_ok (g B : Nat) (l : List UInt8) (x n : Nat) (w : World) (hr : Rd w g B l 0) (hl : l.length ≤ 1099511627776) (hg : getVarB l = .ok (x, n)) :
    Calls Tryz.prog 74 #[.pointer (some ⟨g, 0, none⟩)] w fun e w' => ∃ A k c, e = .returned (.tuple #[.int .u64 x, .slice A k c, .bool true]) ∧ Ob 5 w' w.heap.size (.slice A k c) (l.drop n) ∧ Below w.heap.size w w' := by
  obtain ⟨A, k, c, hb, hown⟩ := hr
  have d0 : w.cell? ⟨g, 0, none⟩ = some (.slice A k c) := hb.cell 0
  have d1 : w.cell? ⟨g, 1, none⟩ = some (.int .i64 0) := hb.cell 1
  have HO := Lib.hid hown
  clear hb hown
  go_enter Tryz.func74, Tryz.ntmps74
  go_wp2_with fail
  refine (getVar_any _ _ l w hl HO.out.bs).mono ?_
  rintro e w1 ⟨hok, _⟩
  obtain ⟨A1, k1, c1, rfl, hown1, hbl1⟩ := hok x n hg
  clear hok
  go_wp2_with fail
  go_ret3
  exact ⟨A1, k1, c1, rfl, hown1, hbl1⟩
set_option maxHeartbeats 1000000 in
set_option maxRecDepth 100000 in
theorem rtake_err (g B : Nat) (l : List UInt8) (er : Nat) (w : World) (hr : Rd w g B l 0) (hl : l.length ≤ 1099511627776) (hg : getVarB l = .error er) :
    Calls Tryz.prog 74 #[.pointer (some ⟨g, 0, none⟩)] w fun e w' => e = .returned (.tuple #[.int .u64 0, .slice none 0 0, .bool false]) ∧ Rd w' g B l (rdErr er) ∧ w.grownBy w' (some g) := by
  have HR := Lib.hid hr
  obtain ⟨A, k, c, hb, hown⟩ := hr
  have d0 : w.cell? ⟨g, 0, none⟩ = some (.slice A k c) := hb.cell 0
  have d1 : w.cell? ⟨g, 1, none⟩ = some (.int .i64 0) := hb.cell 1
  have HO := Lib.hid hown
  have hcase := getV_errs l 0 0 er hg
  clear hb hown
  rcases hcase with rfl | rfl
  · go_enter Tryz.func74, Tryz.ntmps74
    go_wp2_with fail
    refine (getVar_any _ _ l w hl HO.out.bs).mono ?_
    rintro e w1 ⟨_, herr⟩
    obtain ⟨rfl, hbl1⟩ := herr _ hg
    have HR1 := Lib.hid (HR.out.later hbl1)
    clear herr
    go_wp2_with fail
    refine (fail_any g B l 0 30 w1 HR1.out (by omega) (by omega)).mono ?_
    rintro e w2 ⟨rfl, hr2, hg2⟩
    go_wp2_with fail
    go_ret3
    exact ⟨rfl, hr2, (below_grownBy hbl1 _).trans hg2⟩
  · go_enter Tryz.func74, Tryz.ntmps74
    go_wp2_with fail
    refine (getVar_any _ _ l w hl HO.out.bs).mono ?_
    rintro e w1 ⟨_, herr⟩
    obtain ⟨rfl, hbl1⟩ := herr _ hg
    have HR1 := Lib.hid (HR.out.later hbl1)
    clear herr
    go_wp2_with fail
    refine (fail_any g B l 0 12 w1 HR1.out (by omega) (by omega)).mono ?_
    rintro e w2 ⟨rfl, hr2, hg2⟩
    go_wp2_with fail
    go_ret3
    exact ⟨rfl, hr2, (below_grownBy hbl1 _).trans hg2⟩

/-- What Count takes: the number, the rest, what went wrong. -/
def rdCount (l : List UInt8) (err : Nat) (most : Int) : Nat × List UInt8 × Nat :=
  if err ≠ 0 then (0, l, err) else match getVarB l with
    | .error er => (0, l, rdErr er)
    | .ok (x, n) => if most < (x : Int) then (0, l, 32) else (x, l.drop n, 0)
theorem rdErr_le {l : List UInt8} {er : Nat} (h : getVarB l = .error er) : rdErr er ≤ 1000 ∧ rdErr er ≠ 0 := by
  rcases getV_errs l 0 0 er h with rfl | rfl <;> decide

/-- The function value 'r.take'. -/
def takeFn (g : Nat) : Value := .func (Fn.func 74) #[.pointer (some ⟨g, 0, none⟩)] #[]
set_option maxHeartbeats 1000000 in
set_option maxRecDepth 100000 in
theorem below_ok (g B : Nat) (l : List UInt8) (x n : Nat) (most : Int) (w : World) (hr : Rd w g B l 0) (hl : l.length ≤ 1099511627776) (hg : getVarB l = .ok (x, n)) (hm : most ≤ 9223372036854775807) (hx : (x : Int) ≤ most) :
    Calls Tryz.prog 75 #[.pointer (some ⟨g, 0, none⟩), takeFn g, .int .i64 most] w fun e w' => ∃ A k c, e = .returned (.tuple #[.int .i64 x, .slice A k c, .bool true]) ∧ Ob 5 w' w.heap.size (.slice A k c) (l.drop n) ∧ Below w.heap.size w w' := by
  obtain ⟨m, rfl⟩ : ∃ m : Nat, most = (m : Int) := ⟨most.toNat, by omega⟩
  have hxm : x ≤ m := by omega
  unfold takeFn
  have HT := Lib.hid (rtake_ok g B l x n w hr hl hg)
  clear hr hg
  go_enter Tryz.func75, Tryz.ntmps75
  go_wp2_with fail
  refine HT.out.mono ?_
  rintro e w1 ⟨A1, k1, c1, rfl, hown1, hbl1⟩
  have t0 : decide (m < x) = false := by rw [decide_eq_false_iff_not]; omega
  go_wp2_with fail
  go_ret3
  exact ⟨A1, k1, c1, rfl, hown1, hbl1⟩
set_option maxHeartbeats 1000000 in
set_option maxRecDepth 100000 in
theorem below_big (g B : Nat) (l : List UInt8) (x n : Nat) (most : Int) (w : World) (hr : Rd w g B l 0) (hl : l.length ≤ 1099511627776) (hg : getVarB l = .ok (x, n)) (hm : most ≤ 9223372036854775807) (hm2 : -9223372036854775808 ≤ most) (hx : most < (x : Int)) :
    Calls Tryz.prog 75 #[.pointer (some ⟨g, 0, none⟩), takeFn g, .int .i64 most] w fun e w' => e = .returned (.tuple #[.int .i64 0, .slice none 0 0, .bool false]) ∧ Rd w' g B l 32 ∧ w.grownBy w' (some g) := by
  unfold takeFn
  have HT := Lib.hid (rtake_ok g B l x n w hr hl hg)
  have HR := Lib.hid hr
  have hx64 := (getVarB_bound hg).1
  clear hr hg
  by_cases h0 : most < 0
  · go_enter Tryz.func75, Tryz.ntmps75
    go_wp2_with fail
    refine HT.out.mono ?_
    rintro e w1 ⟨A1, k1, c1, rfl, hown1, hbl1⟩
    have HR1 := Lib.hid (HR.out.later hbl1)
    go_wp2_with fail
    refine (fail_any g B l 0 32 w1 HR1.out (by omega) (by omega)).mono ?_
    rintro e w2 ⟨rfl, hr2, hg2⟩
    go_wp2_with fail
    go_ret3
    exact ⟨rfl, hr2, (below_grownBy hbl1 _).trans hg2⟩
  · obtain ⟨m, rfl⟩ : ∃ m : Nat, most = (m : Int) := ⟨most.toNat, by omega⟩
    have hxm : m < x := by omega
    go_enter Tryz.func75, Tryz.ntmps75
    go_wp2_with fail
    refine HT.out.mono ?_
    rintro e w1 ⟨A1, k1, c1, rfl, hown1, hbl1⟩
    have t0 : decide (m < x) = true := by rw [decide_eq_true_eq]; omega
    have HR1 := Lib.hid (HR.out.later hbl1)
    go_wp2_with fail
    refine (fail_any g B l 0 32 w1 HR1.out (by omega) (by omega)).mono ?_
    rintro e w2 ⟨rfl, hr2, hg2⟩
    go_wp2_with fail
    go_ret3
    exact ⟨rfl, hr2, (below_grownBy hbl1 _).trans hg2⟩
set_option maxHeartbeats 1000000 in
set_option maxRecDepth 100000 in
theorem below_no (g B : Nat) (l : List UInt8) (most : Int) (w : World) (err err' : Nat)
    (ht : Calls Tryz.prog 74 #[.pointer (some ⟨g, 0, none⟩)] w fun e w' => e = .returned (.tuple #[.int .u64 0, .slice none 0 0, .bool false]) ∧ Rd w' g B l err' ∧ w.grownBy w' (some g)) :
    Calls Tryz.prog 75 #[.pointer (some ⟨g, 0, none⟩), takeFn g, .int .i64 most] w fun e w' => e = .returned (.tuple #[.int .i64 0, .slice none 0 0, .bool false]) ∧ Rd w' g B l err' ∧ w.grownBy w' (some g) := by
  unfold takeFn
  have HT := Lib.hid ht
  clear ht
  go_enter Tryz.func75, Tryz.ntmps75
  go_wp2_with fail
  refine HT.out.mono ?_
  rintro e w1 ⟨rfl, hr1, hg1⟩
  go_wp2_with fail
  go_ret3
  exact ⟨rfl, hr1, hg1⟩

set_option maxHeartbeats 1000000 in
set_option maxRecDepth 100000 in
theorem count_any (g B : Nat) (l : List UInt8) (err : Nat) (most : Int) (w : World) (hr : Rd w g B l err) (hB : B ≤ w.heap.size) (hl : l.length ≤ 1099511627776) (hm : most ≤ 9223372036854775807) (hm2 : -9223372036854775808 ≤ most) :
    Calls Tryz.prog 54 #[.pointer (some ⟨g, 0, none⟩), .int .i64 most] w fun e w' => e = .returned (.int .i64 ((rdCount l err most).1 : Int)) ∧ Rd w' g B (rdCount l err most).2.1 (rdCount l err most).2.2 ∧ w.grownBy w' (some g) := by
  have hmf := run_makeFunc Tryz.prog
  have no : ∀ err', rdCount l err most = (0, l, err') → (Calls Tryz.prog 75 #[.pointer (some ⟨g, 0, none⟩), takeFn g, .int .i64 most] w fun e w' => e = .returned (.tuple #[.int .i64 0, .slice none 0 0, .bool false]) ∧ Rd w' g B l err' ∧ w.grownBy w' (some g)) →
      Calls Tryz.prog 54 #[.pointer (some ⟨g, 0, none⟩), .int .i64 most] w fun e w' => e = .returned (.int .i64 ((rdCount l err most).1 : Int)) ∧ Rd w' g B (rdCount l err most).2.1 (rdCount l err most).2.2 ∧ w.grownBy w' (some g) := by
    intro err' hrc hb
    have HRC := Lib.hid hrc
    have HBL := Lib.hid hb
    clear hrc hb
    go_enter Tryz.func54, Tryz.ntmps54
    go_wp2_with fail
    refine HBL.out.mono ?_
    rintro e w1 ⟨rfl, hr1, hg1⟩
    go_wp2_with fail
    go_ret
    rw [HRC.out]
    exact ⟨rfl, hr1, hg1⟩
  by_cases h0 : err = 0
  · subst h0
    cases hgv : getVarB l with
    | error er =>
      refine no (rdErr er) (by unfold rdCount; rw [if_neg (by simp), hgv]) ?_
      exact below_no g B l most w 0 _ (rtake_err g B l er w hr hl hgv)
    | ok xn =>
      obtain ⟨x, n⟩ := xn
      by_cases hx : most < (x : Int)
      · refine no 32 (by unfold rdCount; rw [if_neg (by simp), hgv]; simp only; rw [if_pos hx]) ?_
        exact below_big g B l x n most w hr hl hgv hm hm2 hx
      · have HRC : Hid (rdCount l 0 most = (x, l.drop n, 0)) := by unfold rdCount; rw [if_neg (by simp), hgv]; simp only; rw [if_neg hx]; rfl
        have HBL := Lib.hid (below_ok g B l x n most w hr hl hgv hm (by omega))
        have HR := Lib.hid hr
        clear no hr
        go_enter Tryz.func54, Tryz.ntmps54
        go_wp2_with fail
        refine HBL.out.mono ?_
        rintro e w1 ⟨A1, k1, c1, rfl, hown1, hbl1⟩
        obtain ⟨A, k, c, hb1, _⟩ := HR.out.later hbl1
        have d0 : w1.cell? ⟨g, 0, none⟩ = some (.slice A k c) := hb1.cell 0
        have f0 := hb1.free 0
        go_wp2_with fail
        go_ret
        rw [HRC.out]
        exact ⟨rfl, ⟨A1, k1, c1, hb1.put 0 _, (Ub.of_own (hown1.lower hB)).beside hb1 (by decide) (grown_put _ _ _ _)⟩, (below_grownBy hbl1 _).trans (grown_put _ _ _ _)⟩
  · refine no err (by unfold rdCount; rw [if_pos h0]) ?_
    refine below_no g B l most w err err ((rtake_old g B l err w hr h0).mono ?_)
    rintro e w1 ⟨rfl, rfl⟩
    exact ⟨rfl, hr, World.grownBy.refl _ _⟩

/-- What End says. -/
def rdEnd (l : List UInt8) (err : Nat) : Nat := if err = 0 ∧ 0 < l.length then 31 else err
set_option maxHeartbeats 400000 in
theorem end_rd (g B : Nat) (l : List UInt8) (err : Nat) (w : World) (hr : Rd w g B l err) (hl : l.length ≤ 1099511627776) :
    Calls Tryz.prog 55 #[.pointer (some ⟨g, 0, none⟩)] w fun e w' => e = .returned (.int .i64 (rdEnd l err : Int)) ∧ w = w' := by
  obtain ⟨A, k, c, hb, hown⟩ := hr
  have d0 : w.cell? ⟨g, 0, none⟩ = some (.slice A k c) := hb.cell 0
  have d1 : w.cell? ⟨g, 1, none⟩ = some (.int .i64 (err : Int)) := hb.cell 1
  obtain rfl := hown.len
  clear hb hown
  by_cases h0 : err = 0
  · subst h0
    by_cases hz : 0 < l.length
    · have HE : Hid (rdEnd l 0 = 31) := by unfold rdEnd; rw [if_pos ⟨rfl, hz⟩]; rfl
      go_enter Tryz.func55, Tryz.ntmps55
      go_wp2_with fail
      go_ret
      rw [HE.out]
      exact ⟨rfl, rfl⟩
    · have HE : Hid (rdEnd l 0 = 0) := by unfold rdEnd; rw [if_neg (fun h => hz h.2)]; rfl
      go_enter Tryz.func55, Tryz.ntmps55
      go_wp2_with fail
      go_ret
      rw [HE.out]
      exact ⟨rfl, rfl⟩
  · have HE : Hid (rdEnd l err = err) := by unfold rdEnd; rw [if_neg (fun h => h0 h.1)]; rfl
    have t0 : ((err : Int) == 0) = false := by rw [beq_eq_false_iff_ne]; omega
    clear h0
    go_enter Tryz.func55, Tryz.ntmps55
    go_wp2_with fail
    go_ret
    rw [HE.out]
    exact ⟨rfl, rfl⟩
end Go.Proofs.YtildohndbeagaaaGreatDoor

namespace Go.Proofs.YtildohndbeagaaaGreatDoor
open Go Go.RowKit
set_option linter.unusedVariables false

theorem rdErrP_eq (e : Nat) : rdErrP e = rdErr e := rfl
set_option maxHeartbeats 1000000 in
theorem rnum_any (g B : Nat) (l : List UInt8) (err : Nat) (w : World) (hr : Rd w g B l err) (hB : B ≤ w.heap.size) (hl : l.length ≤ 1099511627776) :
    Calls Tryz.prog 52 #[.pointer (some ⟨g, 0, none⟩)] w fun e w' => e = .returned (.int .u64 ((rdNum l err).1 : Int)) ∧ Rd w' g B (rdNum l err).2.1 (rdNum l err).2.2 ∧ w.grownBy w' (some g) := by
  have no : ∀ err', rdNum l err = (0, l, err') → (Calls Tryz.prog 74 #[.pointer (some ⟨g, 0, none⟩)] w fun e w' => e = .returned (.tuple #[.int .u64 0, .slice none 0 0, .bool false]) ∧ Rd w' g B l err' ∧ w.grownBy w' (some g)) →
      Calls Tryz.prog 52 #[.pointer (some ⟨g, 0, none⟩)] w fun e w' => e = .returned (.int .u64 ((rdNum l err).1 : Int)) ∧ Rd w' g B (rdNum l err).2.1 (rdNum l err).2.2 ∧ w.grownBy w' (some g) := by
    intro err' hrc hb
    have HRC := Lib.hid hrc
    have HBL := Lib.hid hb
    clear hrc hb
    go_enter Tryz.func52, Tryz.ntmps52
    go_wp2_with fail
    refine HBL.out.mono ?_
    rintro e w1 ⟨rfl, hr1, hg1⟩
    go_wp2_with fail
    go_ret
    rw [HRC.out]
    exact ⟨rfl, hr1, hg1⟩
  by_cases h0 : err = 0
  · subst h0
    cases hgv : getVarB l with
    | error er =>
      exact no (rdErr er) (by unfold rdNum; rw [if_neg (by simp), hgv]; rfl) (rtake_err g B l er w hr hl hgv)
    | ok xn =>
      obtain ⟨x, n⟩ := xn
      have HRC : Hid (rdNum l 0 = (x, l.drop n, 0)) := by unfold rdNum; rw [if_neg (by simp), hgv]; rfl
      have HBL := Lib.hid (rtake_ok g B l x n w hr hl hgv)
      have HR := Lib.hid hr
      clear no hr
      go_enter Tryz.func52, Tryz.ntmps52
      go_wp2_with fail
      refine HBL.out.mono ?_
      rintro e w1 ⟨A1, k1, c1, rfl, hown1, hbl1⟩
      obtain ⟨A, k, c, hb1, _⟩ := HR.out.later hbl1
      have d0 : w1.cell? ⟨g, 0, none⟩ = some (.slice A k c) := hb1.cell 0
      have f0 := hb1.free 0
      go_wp2_with fail
      go_ret
      rw [HRC.out]
      exact ⟨rfl, ⟨A1, k1, c1, hb1.put 0 _, (Ub.of_own (hown1.lower hB)).beside hb1 (by decide) (grown_put _ _ _ _)⟩, (below_grownBy hbl1 _).trans (grown_put _ _ _ _)⟩
  · refine no err (by unfold rdNum; rw [if_pos h0]) ((rtake_old g B l err w hr h0).mono ?_)
    rintro e w1 ⟨rfl, rfl⟩
    exact ⟨rfl, hr, World.grownBy.refl _ _⟩


theorem below_size {g B : Nat} {w w' : World} (h : w.grownBy w' (some g)) : w.heap.size ≤ w'.heap.size := h.size
set_option maxHeartbeats 1000000 in
set_option maxRecDepth 100000 in
theorem rtext_no (g B : Nat) (l : List UInt8) (w : World) (err' : Nat)
    (hb : Calls Tryz.prog 75 #[.pointer (some ⟨g, 0, none⟩), takeFn g, .int .i64 65536] w fun e w' => e = .returned (.tuple #[.int .i64 0, .slice none 0 0, .bool false]) ∧ Rd w' g B l err' ∧ w.grownBy w' (some g)) :
    Calls Tryz.prog 80 #[.pointer (some ⟨g, 0, none⟩)] w fun e w' => e = .returned (.string (st [])) ∧ Rd w' g B l err' ∧ w.grownBy w' (some g) := by
  have hmf := run_makeFunc Tryz.prog
  have HBL := Lib.hid hb
  clear hb
  go_enter Tryz.func80, Tryz.ntmps80
  go_wp2_with fail
  refine HBL.out.mono ?_
  rintro e w1 ⟨rfl, hr1, hg1⟩
  go_wp2_with fail
  go_ret
  exact ⟨rfl, hr1, hg1⟩
set_option maxHeartbeats 1000000 in
set_option maxRecDepth 100000 in
theorem rtext_short (g B : Nat) (l : List UInt8) (x n : Nat) (w : World) (hr : Rd w g B l 0) (hl : l.length ≤ 1099511627776) (hg : getVarB l = .ok (x, n)) (hx : x ≤ 65536) (hs : (l.drop n).length < x) :
    Calls Tryz.prog 80 #[.pointer (some ⟨g, 0, none⟩)] w fun e w' => e = .returned (.string (st [])) ∧ Rd w' g B l 30 ∧ w.grownBy w' (some g) := by
  have hmf := run_makeFunc Tryz.prog
  have HBL := Lib.hid (below_ok g B l x n 65536 w hr hl hg (by omega) (by omega))
  have HR := Lib.hid hr
  clear hr
  generalize l.drop n = m at *
  go_enter Tryz.func80, Tryz.ntmps80
  go_wp2_with fail
  refine HBL.out.mono ?_
  rintro e w1 ⟨A1, k1, c1, rfl, hown1, hbl1⟩
  obtain rfl := hown1.len
  have HR1 := Lib.hid (HR.out.later hbl1)
  have t0 : decide (m.length < x) = true := by rw [decide_eq_true_eq]; exact hs
  go_wp2_with fail
  refine (fail_any g B l 0 30 w1 HR1.out (by omega) (by omega)).mono ?_
  rintro e w2 ⟨rfl, hr2, hg2⟩
  go_wp2_with fail
  go_ret
  exact ⟨rfl, hr2, (below_grownBy hbl1 _).trans hg2⟩
set_option maxHeartbeats 1000000 in
set_option maxRecDepth 100000 in
theorem rtext_ok (g B : Nat) (l : List UInt8) (x n : Nat) (w : World) (hr : Rd w g B l 0) (hB : B ≤ w.heap.size) (hl : l.length ≤ 1099511627776) (hg : getVarB l = .ok (x, n)) (hx : x ≤ 65536) (hs : ¬ (l.drop n).length < x) :
    Calls Tryz.prog 80 #[.pointer (some ⟨g, 0, none⟩)] w fun e w' => e = .returned (.string (st ((l.drop n).take x))) ∧ Rd w' g B ((l.drop n).drop x) 0 ∧ w.grownBy w' (some g) := by
  have hmf := run_makeFunc Tryz.prog
  have HBL := Lib.hid (below_ok g B l x n 65536 w hr hl hg (by omega) (by omega))
  have HR := Lib.hid hr
  have hll : (l.drop n).length ≤ 1099511627776 := by rw [List.length_drop]; omega
  clear hr
  generalize l.drop n = m at *
  go_enter Tryz.func80, Tryz.ntmps80
  go_wp2_with fail
  refine HBL.out.mono ?_
  rintro e w1 ⟨A1, k1, c1, rfl, hown1, hbl1⟩
  obtain rfl := hown1.len
  obtain ⟨A, k, c, hb1, _⟩ := HR.out.later hbl1
  have d0 : w1.cell? ⟨g, 0, none⟩ = some (.slice A k c) := hb1.cell 0
  have f0 := hb1.free 0
  have HB1 := Lib.hid hb1
  have t0 : decide (m.length < x) = false := by rw [decide_eq_false_iff_not]; exact hs
  have hxm : x ≤ m.length := by omega
  clear hs hb1
  rcases hown1.2 with ⟨hv, hn⟩ | ⟨g1, cap, cur, hv, _, _, hnc, hcm, _⟩
  · injection hv with hA _ hc
    subst hA hc
    obtain rfl : m = [] := List.eq_nil_of_length_eq_zero hn
    obtain rfl : x = 0 := by simpa using hxm
    have cv := run_string_of_bs (P := Tryz.prog) (Bs.nilv (fun _ => True) (w1.setCell ⟨g, 0, none⟩ (.slice none 0 0))) tB tU tS
    clear hown1
    go_wp2_with fail
    go_ret
    exact ⟨rfl, ⟨none, 0, 0, HB1.out.put 0 _, Bs.nilv _ _⟩, (below_grownBy hbl1 _).trans (grown_put _ _ _ _)⟩
  · injection hv with hA _ hc
    subst hA hc
    have hu := (Ub.of_own (hown1.lower hB)).beside HB1.out (by decide) (grown_put w1 g 0 (.slice (if c1 = x then some ⟨g1, 0, none⟩ else some ⟨g1, 0 + x, none⟩) (m.length - x) (c1 - x)))
    have cv := run_string_of_bs (P := Tryz.prog) (Bs.pre hu.bs hxm) tB tU tS
    have hcut : Hid (Ub (w1.setCell ⟨g, 0, none⟩ (.slice (if c1 = x then some ⟨g1, 0, none⟩ else some ⟨g1, 0 + x, none⟩) (m.length - x) (c1 - x))) B _ _) := Bs.cut hu hxm
    clear hown1 hu
    by_cases hcx : c1 = x
    · rw [if_pos hcx] at cv hcut
      subst hcx
      rw [Nat.sub_self, show m.length - c1 = 0 by omega] at cv hcut
      go_wp2_with fail
      go_ret
      exact ⟨rfl, ⟨_, _, _, HB1.out.put 0 _, hcut⟩, (below_grownBy hbl1 _).trans (grown_put _ _ _ _)⟩
    · rw [if_neg hcx, Nat.zero_add] at cv hcut
      go_wp2_with fail
      go_ret
      exact ⟨rfl, ⟨_, _, _, HB1.out.put 0 _, hcut⟩, (below_grownBy hbl1 _).trans (grown_put _ _ _ _)⟩

set_option maxHeartbeats 1000000 in
theorem rtext_any (g B : Nat) (l : List UInt8) (err : Nat) (w : World) (hr : Rd w g B l err) (hB : B ≤ w.heap.size) (hl : l.length ≤ 1099511627776) :
    Calls Tryz.prog 80 #[.pointer (some ⟨g, 0, none⟩)] w fun e w' => e = .returned (.string (st (rdText l err).1)) ∧ Rd w' g B (rdText l err).2.1 (rdText l err).2.2 ∧ w.grownBy w' (some g) := by
  by_cases h0 : err = 0
  · subst h0
    cases hgv : getVarB l with
    | error er =>
      have e : rdText l 0 = ([], l, rdErr er) := by unfold rdText; rw [if_neg (by simp), hgv]; rfl
      rw [e]
      exact rtext_no g B l w _ (below_no g B l 65536 w 0 _ (rtake_err g B l er w hr hl hgv))
    | ok xn =>
      obtain ⟨x, n⟩ := xn
      by_cases hx : 65536 < x
      · have e : rdText l 0 = ([], l, 32) := by unfold rdText; rw [if_neg (by simp), hgv]; simp only; rw [if_pos hx]
        rw [e]
        exact rtext_no g B l w _ (below_big g B l x n 65536 w hr hl hgv (by omega) (by omega) (by omega))
      · by_cases hs : (l.drop n).length < x
        · have e : rdText l 0 = ([], l, 30) := by unfold rdText; rw [if_neg (by simp), hgv]; simp only; rw [if_neg hx, if_pos hs]
          rw [e]
          exact rtext_short g B l x n w hr hl hgv (by omega) hs
        · have e : rdText l 0 = ((l.drop n).take x, (l.drop n).drop x, 0) := by unfold rdText; rw [if_neg (by simp), hgv]; simp only; rw [if_neg hx, if_neg hs]
          rw [e]
          exact rtext_ok g B l x n w hr hB hl hgv (by omega) hs
  · have e : rdText l err = ([], l, err) := by unfold rdText; rw [if_pos h0]
    rw [e]
    refine rtext_no g B l w _ (below_no g B l 65536 w err err ((rtake_old g B l err w hr h0).mono ?_))
    rintro e w1 ⟨rfl, rfl⟩
    exact ⟨rfl, hr, World.grownBy.refl _ _⟩
end Go.Proofs.YtildohndbeagaaaGreatDoor

namespace Go.Proofs.YtildohndbeagaaaGreatDoor
open Go Go.RowKit
set_option linter.unusedVariables false

/-- ty is a struct's type, of n cells. -/
def StructTy (P : Program) (ty : TypeId) (n : Nat) : Prop := (∃ fs, P.underlying ty = some (.struct fs)) ∧ (P.info? ty).map (·.size) = some n

section
variable {P : Program} {fn : Func}
theorem loadVar_blk {w : World} {g : Nat} {t ty : TypeId} {cs : Array Value} (hg : Blk w g t cs) (hS : StructTy P ty cs.size) : (loadVar ty ⟨g, 0, none⟩).run P w = .ok (.agg cs) w := by
  obtain ⟨⟨fs, hu⟩, hi⟩ := hS
  exact run_loadVar_row w g t ty cs (0, 0) _ hg hu rfl hi
theorem results_cell2 {p u : Tmp} {ty : TypeId} (h : fn.results = #[.cell p ty, .tmp u]) (tmps : Array Value) (w : World) (g : Nat) {t : TypeId} {cs : Array Value}
    (hp : tmps.getD p undef = .pointer (some ⟨g, 0, none⟩)) (hg : Blk w g t cs) (hS : StructTy P ty cs.size) :
    (results fn tmps).run P w = .ok (.tuple #[.agg cs, tmps.getD u undef]) w := by
  have hp' : tmps[p]?.getD undef = .pointer (some ⟨g, 0, none⟩) := by simpa using hp
  simp [results, h, hp', asAddr, loadVar_blk hg hS]
theorem results_cell3 {p u v : Tmp} {ty : TypeId} (h : fn.results = #[.cell p ty, .tmp u, .tmp v]) (tmps : Array Value) (w : World) (g : Nat) {t : TypeId} {cs : Array Value}
    (hp : tmps.getD p undef = .pointer (some ⟨g, 0, none⟩)) (hg : Blk w g t cs) (hS : StructTy P ty cs.size) :
    (results fn tmps).run P w = .ok (.tuple #[.agg cs, tmps.getD u undef, tmps.getD v undef]) w := by
  have hp' : tmps[p]?.getD undef = .pointer (some ⟨g, 0, none⟩) := by simpa using hp
  simp [results, h, hp', asAddr, loadVar_blk hg hS]
theorem results_cell1 {p : Tmp} {ty : TypeId} (h : fn.results = #[.cell p ty]) (tmps : Array Value) (w : World) (g : Nat) {t : TypeId} {cs : Array Value}
    (hp : tmps.getD p undef = .pointer (some ⟨g, 0, none⟩)) (hg : Blk w g t cs) (hS : StructTy P ty cs.size) :
    (results fn tmps).run P w = .ok (.agg cs) w := by
  have hp' : tmps[p]?.getD undef = .pointer (some ⟨g, 0, none⟩) := by simpa using hp
  simp [results, h, hp', asAddr, loadVar_blk hg hS]
theorem results_cells21 {p q u : Tmp} {ty ty' : TypeId} (h : fn.results = #[.cell p ty, .cell q ty', .tmp u]) (tmps : Array Value) (w : World) (g g' : Nat) {t t' : TypeId} {cs cs' : Array Value}
    (hp : tmps.getD p undef = .pointer (some ⟨g, 0, none⟩)) (hq : tmps.getD q undef = .pointer (some ⟨g', 0, none⟩)) (hg : Blk w g t cs) (hg' : Blk w g' t' cs') (hS : StructTy P ty cs.size) (hS' : StructTy P ty' cs'.size) :
    (results fn tmps).run P w = .ok (.tuple #[.agg cs, .agg cs', tmps.getD u undef]) w := by
  have hp' : tmps[p]?.getD undef = .pointer (some ⟨g, 0, none⟩) := by simpa using hp
  have hq' : tmps[q]?.getD undef = .pointer (some ⟨g', 0, none⟩) := by simpa using hq
  simp [results, h, hp', hq', asAddr, loadVar_blk hg hS, loadVar_blk hg' hS']
end
end Go.Proofs.YtildohndbeagaaaGreatDoor

namespace Go.Proofs.YtildohndbeagaaaGreatDoor
open Go Go.RowKit
set_option linter.unusedVariables false

def rgetV : Option ((Nat × List UInt8) × Nat) → Value
  | some (r, n) => .tuple #[recV r, .int .i64 (n : Int), .bool true]
  | none => .tuple #[recV (0, []), .int .i64 0, .bool false]
theorem recTy : StructTy Tryz.prog 85 2 := ⟨⟨_, Tryz.underlying85⟩, by kernel_rfl⟩
/-- A record's cells are written: both. -/
theorem Blk.put2 {w : World} {g : Nat} {t : TypeId} {a b : Value} (h : Blk w g t #[a, b]) (x y : Value) : Blk ((w.setCell ⟨g, 0, none⟩ x).setCell ⟨g, 1, none⟩ y) g t #[x, y] := (h.put 0 x).put 1 y

set_option maxHeartbeats 1000000 in
set_option maxRecDepth 100000 in
theorem rget_short (A : Option Addr) (k c : Nat) (w : World) (hk : k < 4) :
    Calls Tryz.prog 57 #[.slice A k c] w fun e w' => e = .returned (rgetV none) ∧ Below w.heap.size w w' := by
  have q0 : Below w.heap.size w (w.alloc (.cells #[.int .u64 0, .string (st [])] 85)) := (Below.refl _ _).alloc (Nat.le_refl _) _
  have hb0 := Blk.new w 85 #[.int .u64 0, .string (st [])]
  go_enter Tryz.func57, Tryz.ntmps57
  go_wp2_with fail
  refine (get_short A k c 4 _ (by omega) (by omega) hk).mono ?_
  rintro e w1 ⟨rfl, rfl⟩
  go_wp2_with fail
  exact bodyPost_ret (results_cell3 rfl _ _ w.heap.size rfl hb0 recTy) rfl ⟨rfl, q0⟩

theorem Ob.cases {e : TypeId} {w : World} {B : Nat} {A : Option Addr} {k c : Nat} {l : List UInt8} (h : Ob e w B (.slice A k c) l) : (A = none ∧ l = [] ∧ c = 0) ∨ ∃ g, A = some ⟨g, 0, none⟩ := by
  rcases h.2 with ⟨hv, hn⟩ | ⟨g, cap, cur, hv, _⟩
  · injection hv with hA _ hc
    exact .inl ⟨hA, List.eq_nil_of_length_eq_zero hn, hc⟩
  · injection hv with hA _ hc
    exact .inr ⟨g, hA⟩
theorem openB_err {l : List UInt8} {er : Nat} (h : openB l = .error er) : er = 20 ∨ er = 21 := by
  unfold openB at h
  split at h
  · cases h; exact .inl rfl
  · split at h
    · cases h
    · cases h; exact .inr rfl
theorem openB_len {l f : List UInt8} (h : openB l = .ok f) : f.length ≤ l.length := by
  unfold openB at h
  split at h
  · cases h
  · split at h
    · cases h; rw [List.length_take]; omega
    · cases h
/-- What the fields say. -/
def recIn (f : List UInt8) (n : Nat) : Option ((Nat × List UInt8) × Nat) :=
  if (rdText (rdNum f 0).2.1 (rdNum f 0).2.2).2.2 = 0 ∧ (rdText (rdNum f 0).2.1 (rdNum f 0).2.2).2.1 = [] ∧ (rdText (rdNum f 0).2.1 (rdNum f 0).2.2).1.length ≤ 32768
  then some (((rdNum f 0).1, (rdText (rdNum f 0).2.1 (rdNum f 0).2.2).1), 4 + n) else none
def recOp (m : List UInt8) (n : Nat) : Option ((Nat × List UInt8) × Nat) := match openB (m.take n) with
  | .error _ => none
  | .ok f => recIn f n
theorem recGet_op {l : List UInt8} (h : ¬ (l.length < 4 ∨ (l.drop 4).length < deB (l.take 4))) : recGet l = recOp (l.drop 4) (deB (l.take 4)) := by
  unfold recGet recOp recIn
  rw [if_neg h]
  cases openB ((l.drop 4).take (deB (l.take 4))) <;> rfl
theorem openB_nil : openB [] = .error 20 := by unfold openB; rw [if_pos (by simp)]
theorem rdEnd_zero {l : List UInt8} {e : Nat} : rdEnd l e = 0 ↔ e = 0 ∧ l = [] := by
  unfold rdEnd
  constructor
  · intro h
    split at h
    · cases h
    · rename_i h2
      subst h
      refine ⟨rfl, ?_⟩
      rcases l with _ | ⟨b, l⟩
      · rfl
      · exact absurd ⟨rfl, by simp⟩ h2
  · rintro ⟨rfl, rfl⟩
    rfl
theorem rdNum_le (l : List UInt8) {e : Nat} (he : e ≤ 1000) : (rdNum l e).1 < U64 ∧ (rdNum l e).2.1.length ≤ l.length ∧ (rdNum l e).2.2 ≤ 1000 := by
  unfold rdNum
  split
  · exact ⟨by simp [U64], Nat.le_refl _, he⟩
  · split
    · rename_i er hg
      exact ⟨by simp [U64], Nat.le_refl _, (rdErr_le hg).1⟩
    · rename_i x n hg
      exact ⟨(getVarB_bound hg).1, by rw [List.length_drop]; omega, Nat.zero_le _⟩
theorem rdText_le (l : List UInt8) {e : Nat} (he : e ≤ 1000) : (rdText l e).1.length ≤ 65536 ∧ (rdText l e).2.1.length ≤ l.length ∧ (rdText l e).2.2 ≤ 1000 := by
  unfold rdText
  split
  · exact ⟨by simp, Nat.le_refl _, he⟩
  · split
    · rename_i er hg
      exact ⟨by simp, Nat.le_refl _, (rdErr_le hg).1⟩
    · rename_i x n hg
      split
      · exact ⟨by simp, Nat.le_refl _, (show 32 ≤ 1000 by decide)⟩
      · split
        · exact ⟨by simp, Nat.le_refl _, (show 30 ≤ 1000 by decide)⟩
        · exact ⟨by simp only [List.length_take]; omega, by simp only [List.length_drop]; omega, Nat.zero_le _⟩

set_option maxHeartbeats 2000000 in
set_option maxRecDepth 100000 in
theorem rget_any (S : Nat → Prop) (v0 : Value) (l : List UInt8) (w : World) (hl : l.length ≤ 1099511627776) (hr : Bs S w v0 l) :
    Calls Tryz.prog 57 #[v0] w fun e w' => e = .returned (rgetV (recGet l)) ∧ Below w.heap.size w w' := by
  have HR : Hid (Bs (fun b => b < w.heap.size) w v0 l) := (Sl.lt hr (by omega)).more (fun _ h => h.2)
  by_cases h4 : l.length < 4
  · obtain ⟨A, c, rfl, _⟩ := hr.at
    have e : recGet l = none := by unfold recGet; rw [if_pos (.inl h4)]
    rw [e]
    exact rget_short A l.length c w h4
  have q0 : Below w.heap.size w (w.alloc (.cells #[.int .u64 0, .string (st [])] 85)) := (Below.refl _ _).alloc (Nat.le_refl _) _
  have hb0 := Blk.new w 85 #[.int .u64 0, .string (st [])]
  have hr0 : Hid (Bs (fun b => b < w.heap.size) (w.alloc (.cells #[.int .u64 0, .string (st [])] 85)) v0 l) := Sl.alloc HR.out (fun _ h => h) _
  have hd4 : deB (l.take 4) < 4294967296 := Nat.lt_of_lt_of_le (deB_take_lt l 4) (by decide)
  have hdl : (l.drop 4).length ≤ 1099511627776 := by rw [List.length_drop]; omega
  go_enter Tryz.func57, Tryz.ntmps57
  go_wp2_with fail
  refine (get_ok _ v0 l 4 _ (by omega) (by omega) (by omega) hl hr0.out).mono ?_
  rintro e w1 ⟨A1, k1, c1, rfl, hown1, hbl1⟩
  obtain rfl := hown1.len
  have hb1 := hb0.later hbl1
  have q1 := q0.trans (hbl1.mono q0.size)
  have hs1 := q1.size
  have hwr : IntKind.u64.wrap ((l.drop 4).length : Int) = ((l.drop 4).length : Int) := wrap_u64 (by omega) (by unfold U64; omega)
  have HO1 := Lib.hid hown1
  have d0 : w1.cell? ⟨w.heap.size, 0, none⟩ = some (.int .u64 0) := hb1.cell 0
  have d1 : w1.cell? ⟨w.heap.size, 1, none⟩ = some (.string (st [])) := hb1.cell 1
  have f0 := hb1.free 0
  have f1 := hb1.free 1
  have HB1 := Lib.hid hb1
  clear hown1 hb1 hb0 hbl1 hr0
  by_cases hn : (l.drop 4).length < deB (l.take 4)
  · have HN : Hid (recGet l = none) := by unfold recGet; rw [Hid, if_pos (.inr hn)]
    generalize deB (l.take 4) = n at *
    generalize l.drop 4 = m at *
    have t0 : decide (m.length < n) = true := by rw [decide_eq_true_eq]; exact hn
    clear hn
    go_wp2_with fail
    exact bodyPost_ret (results_cell3 rfl _ _ w.heap.size rfl (HB1.out.put2 _ _) recTy) rfl ⟨by rw [HN.out]; rfl, (q1.setCell (by simp) _).setCell (by simp) _⟩
  · have hnm : deB (l.take 4) ≤ (l.drop 4).length := by omega
    have HG : Hid (recGet l = recOp (l.drop 4) (deB (l.take 4))) := recGet_op (by omega)
    generalize deB (l.take 4) = n at *
    generalize l.drop 4 = m at *
    have t0 : decide (m.length < n) = false := by rw [decide_eq_false_iff_not]; exact hn
    clear hn
    rcases HO1.out.cases with ⟨rfl, rfl, rfl⟩ | ⟨g1, rfl⟩
    · obtain rfl : n = 0 := by simpa using hnm
      have HN : Hid (recGet l = none) := by rw [Hid, HG.out, recOp, List.take_nil, openB_nil]
      clear HG
      go_wp2_with fail
      refine (open_any _ _ [] w1 (by simp) (Bs.nilv (fun _ => True) _)).mono ?_
      rintro e w2 ⟨_, her, hbl2⟩
      obtain rfl := her _ openB_nil
      have hb2 := HB1.out.later hbl2
      have e0 : w2.cell? ⟨w.heap.size, 0, none⟩ = some (.int .u64 0) := hb2.cell 0
      have e1 : w2.cell? ⟨w.heap.size, 1, none⟩ = some (.string (st [])) := hb2.cell 1
      have g0 := hb2.free 0
      have g1 := hb2.free 1
      have q2 := q1.trans (hbl2.mono hs1)
      clear her
      go_wp2_with fail
      exact bodyPost_ret (results_cell3 rfl _ _ w.heap.size rfl (hb2.put2 _ _) recTy) rfl ⟨by rw [HN.out]; rfl, (q2.setCell (by simp) _).setCell (by simp) _⟩
    · have hpre := Lib.hid (Bs.pre HO1.out.bs hnm)
      have hcp : m.length ≤ c1 := by
        obtain ⟨_, c', hv, h, _⟩ := HO1.out.bs.at
        injection hv with _ _ hv
        omega
      have hml : (m.take n).length ≤ 1099511627776 := by rw [List.length_take]; omega
      have HNM := Lib.hid hnm
      go_wp2_with fail
      refine (open_any _ _ (m.take n) w1 hml hpre.out).mono ?_
      rintro e w2 ⟨hok, her, hbl2⟩
      have hb2 := HB1.out.later hbl2
      have q2 := q1.trans (hbl2.mono hs1)
      have hs2 := q2.size
      cases ho : openB (m.take n) with
      | error er =>
        obtain rfl := her _ ho
        have HN : Hid (recGet l = none) := by rw [Hid, HG.out, recOp, ho]
        have e0 : w2.cell? ⟨w.heap.size, 0, none⟩ = some (.int .u64 0) := hb2.cell 0
        have e1 : w2.cell? ⟨w.heap.size, 1, none⟩ = some (.string (st [])) := hb2.cell 1
        have g0 := hb2.free 0
        have g1 := hb2.free 1
        have t1 : ((er : Int) != 0) = true := by
          rw [bne_iff_ne]
          rcases openB_err ho with rfl | rfl <;> decide
        clear her hok HG ho
        go_wp2_with fail
        exact bodyPost_ret (results_cell3 rfl _ _ w.heap.size rfl (hb2.put2 _ _) recTy) rfl ⟨by rw [HN.out]; rfl, (q2.setCell (by simp) _).setCell (by simp) _⟩
      | ok f =>
        obtain ⟨A2, k2, c2, rfl, hown2⟩ := hok _ ho
        have hfl : f.length ≤ 1099511627776 := Nat.le_trans (openB_len ho) hml
        have HG : Hid (recGet l = recIn f n) := by rw [Hid, HG.out, recOp, ho]
        have HO2 := Lib.hid hown2
        have HB2 := Lib.hid hb2
        have hmf := run_makeFunc Tryz.prog
        have hwn : IntKind.i64.wrap (4 + (n : Int)) = 4 + (n : Int) := IntWalk.i64_in _ (by omega)
        have hwn2 : IntKind.i64.wrap (n : Int) = (n : Int) := IntWalk.i64_in _ (by omega)
        clear her hok ho hown2 hpre hb2 d0 d1 f0 f1
        go_wp2_with fail
        refine (read_any _ _ f w2 hfl HO2.out.bs).mono ?_
        rintro e w3 ⟨g, rfl, hg3, hr3, hbl3⟩
        have HB3 := Lib.hid (HB2.out.later hbl3)
        have q3 := q2.trans (hbl3.mono hs2)
        have hs3 := q3.size
        have hne : g ≠ w.heap.size := by have := HB2.out.lt; omega
        have HR3 := Lib.hid hr3
        clear hr3
        go_wp2_with fail
        refine (rnum_any g w2.heap.size f 0 w3 HR3.out hbl3.size hfl).mono ?_
        rintro e w4 ⟨rfl, hr4, hgr4⟩
        have hle4 := rdNum_le f (e := 0) (by omega)
        obtain ⟨X, hX⟩ : ∃ X, rdNum f 0 = X := ⟨_, rfl⟩
        rw [hX] at hr4 hle4
        rw [hX]
        obtain ⟨q, r4, e4⟩ := X
        simp only at hr4 hle4 ⊢
        have HB4 := Lib.hid (HB3.out.grown hgr4 (by simpa using hne))
        have q4 := q3.trans (grown_below hgr4 (by omega) hs3)
        have hs4 := q4.size
        have HR4 := Lib.hid hr4
        have hw4 : w2.heap.size ≤ w4.heap.size := Nat.le_trans hbl3.size hgr4.size
        clear hr4 hgr4
        go_wp2_with fail
        refine (rtext_any g w2.heap.size r4 e4 w4 HR4.out hw4 (by omega)).mono ?_
        rintro e w5 ⟨rfl, hr5, hgr5⟩
        have hle5 := rdText_le r4 hle4.2.2
        obtain ⟨Y, hY⟩ : ∃ Y, rdText r4 e4 = Y := ⟨_, rfl⟩
        rw [hY] at hr5 hle5
        rw [hY]
        obtain ⟨t, r5, e5⟩ := Y
        simp only at hr5 hle5 ⊢
        have HB5 := Lib.hid (HB4.out.grown hgr5 (by simpa using hne))
        have q5 := q4.trans (grown_below hgr5 (by omega) hs4)
        have hs5 := q5.size
        have HR5 := Lib.hid (hr5.later ((Below.refl _ _).alloc (Nat.le_refl _) (.cells #[.int .u64 (q : Int), .string (st t)] 85)))
        have HG2 : Hid (recGet l = if e5 = 0 ∧ r5 = [] ∧ t.length ≤ 32768 then some ((q, t), 4 + n) else none) := by rw [Hid, HG.out, recIn]; simp only [hX, hY]
        have hnb := Blk.new w5 85 #[.int .u64 (q : Int), .string (st t)]
        have q6 := q5.alloc hs5 (.cells #[.int .u64 (q : Int), .string (st t)] 85)
        have hb6 := HB5.out.alloc (.cells #[.int .u64 (q : Int), .string (st t)] 85)
        have hws5 : w.heap.size ≠ w5.heap.size := by have := HB5.out.lt; omega
        have HRL := Lib.hid (show r5.length ≤ 1099511627776 by omega)
        clear hr5 hgr5 HG hX hY hle4 hle5
        go_wp2_with fail
        refine (end_rd g w2.heap.size r5 e5 _ HR5.out HRL.out).mono ?_
        rintro e w6 ⟨rfl, rfl⟩
        have d0 : (w5.alloc (.cells #[.int .u64 (q : Int), .string (st t)] 85)).cell? ⟨w.heap.size, 0, none⟩ = some (.int .u64 0) := hb6.cell 0
        have d1 : (w5.alloc (.cells #[.int .u64 (q : Int), .string (st t)] 85)).cell? ⟨w.heap.size, 1, none⟩ = some (.string (st [])) := hb6.cell 1
        have f0 := hb6.free 0
        have f1 := hb6.free 1
        have HZ := Lib.hid (rdEnd_zero (l := r5) (e := e5))
        by_cases hE : rdEnd r5 e5 = 0
        · have hz := HZ.out.1 hE
          rw [hE]
          by_cases ht : t.length ≤ 32768
          · have HN : Hid (recGet l = some ((q, t), 4 + n)) := by rw [Hid, HG2.out, if_pos ⟨hz.1, hz.2, ht⟩]
            clear hz hE HG2
            go_wp2_with fail
            exact bodyPost_ret (results_cell3 rfl _ _ w.heap.size rfl (hb6.put2 _ _) recTy) rfl ⟨by rw [HN.out]; rfl, (q6.setCell (by simp) _).setCell (by simp) _⟩
          · have HN : Hid (recGet l = none) := by rw [Hid, HG2.out, if_neg (fun h => ht h.2.2)]
            clear hz hE HG2
            go_wp2_with fail
            exact bodyPost_ret (results_cell3 rfl _ _ w.heap.size rfl (hb6.put2 _ _) recTy) rfl ⟨by rw [HN.out]; rfl, (q6.setCell (by simp) _).setCell (by simp) _⟩
        · have HN : Hid (recGet l = none) := by rw [Hid, HG2.out, if_neg (fun h => hE (HZ.out.2 ⟨h.1, h.2.1⟩))]
          have t1 : ((rdEnd r5 e5 : Int) != 0) = true := by rw [bne_iff_ne]; omega
          generalize rdEnd r5 e5 = ee at *
          clear hE HG2 HZ
          go_wp2_with fail
          exact bodyPost_ret (results_cell3 rfl _ _ w.heap.size rfl (hb6.put2 _ _) recTy) rfl ⟨by rw [HN.out]; rfl, (q6.setCell (by simp) _).setCell (by simp) _⟩
end Go.Proofs.YtildohndbeagaaaGreatDoor
