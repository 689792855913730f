/- The disk: Crash. -/
import Derived.Test.YtpmndmgfoiagnaaDoorDskG
import Derived.StillTailTactics
namespace Go.Proofs.YtpmndmgfoiagnaaDoor
open Go Go.RowKit
set_option linter.unusedVariables false

/-- Survivors as cells. -/
def pcs (l : List (Int × Int)) : List Value := l.flatMap fun x => [.int .i64 x.1, .int .i64 x.2]
theorem pcs_len (l : List (Int × Int)) : (pcs l).length = l.length * 2 := by
  induction l with
  | nil => rfl
  | cons r rs ih => simp only [pcs, List.flatMap_cons, List.length_append, List.length_cons, List.length_nil] at ih ⊢; omega
theorem pcs_at {l : List (Int × Int)} {j : Nat} (h : j < l.length) : (pcs l)[j * 2]? = some (.int .i64 l[j].1) ∧ (pcs l)[j * 2 + 1]? = some (.int .i64 l[j].2) := by
  induction l generalizing j with
  | nil => simp at h
  | cons r rs ih =>
    rcases j with _ | j
    · simp [pcs]
    · have := ih (j := j) (by simpa using h)
      simp only [pcs, List.flatMap_cons] at this ⊢
      rw [show (j + 1) * 2 = j * 2 + 1 + 1 by omega]
      simpa using this
/-- The slice value v reads as the survivors l. -/
def Sv (S : Nat → Prop) (w : World) (v : Value) (l : List (Int × Int)) : Prop := Sl S w 2 v l.length (pcs l)
theorem Sv.at {S : Nat → Prop} {w : World} {v : Value} {l : List (Int × Int)} (h : Sv S w v l) : ∃ A c, v = .slice A l.length c ∧
    (0 < l.length → ∃ b o, A = some ⟨b, o, none⟩ ∧ b < w.heap.size ∧ ∀ j (hj : j < l.length), w.cell? ⟨b, o + j * 2, none⟩ = some (.int .i64 l[j].1) ∧ w.cell? ⟨b, o + j * 2 + 1, none⟩ = some (.int .i64 l[j].2)) := by
  obtain ⟨_, A, c, h2, h3, h4, h5, h6⟩ := h
  refine ⟨A, c, h2, fun hn => ?_⟩
  obtain ⟨b, o, ha, hs, hc⟩ := h6 hn
  have h0 := hc _ _ (pcs_at hn).1
  refine ⟨b, o, ha, World.block_lt_of_cell? w _ h0, fun j hj => ⟨hc _ _ (pcs_at hj).1, ?_⟩⟩
  rw [Nat.add_assoc]
  exact hc _ _ (pcs_at hj).2
def fstOf (l : List (Int × Int)) (a : Int) : Option Int := (l.find? fun x => x.1 == a).map (·.2)
theorem fstOf_drop {l : List (Int × Int)} {i : Nat} (h : i < l.length) (a : Int) : fstOf (l.drop i) a = if a = l[i].1 then some l[i].2 else fstOf (l.drop (i + 1)) a := by
  unfold fstOf
  rw [List.drop_eq_getElem_cons h]
  by_cases ha : a = l[i].1
  · rw [if_pos ha, List.find?_cons_of_pos (by simp [ha])]; rfl
  · rw [if_neg ha, List.find?_cons_of_neg (by simp; exact fun e => ha e.symm)]
theorem keptN_fst (l : List (Int × Int)) (k : Nat) : keptN l k = fstOf l (k : Int) := rfl
theorem crashF_snoc (l : List (Int × Int)) : ∀ (ps : List Pnd) (p : Pnd) (k : Nat) (s : SF × Nat), crashF l k (ps ++ [p]) s = match keptN l (k + ps.length) with | some n => doP (crashF l k ps s) p n | none => crashF l k ps s
  | [], p, k, s => by
    simp only [List.nil_append, crashF, List.length_nil, Nat.add_zero]
    cases keptN l k <;> rfl
  | q :: ps, p, k, s => by
    rw [List.cons_append, crashF, crashF_snoc l ps p (k + 1)]
    rw [show k + 1 + ps.length = k + (q :: ps).length by simp; omega]
    rfl
theorem fstOf_in {l : List (Int × Int)} (h : ∀ x ∈ l, InI x.1 ∧ InI x.2) {a n : Int} (hf : fstOf l a = some n) : InI n := by
  unfold fstOf at hf
  cases hfd : l.find? (fun x => x.1 == a) with
  | none => rw [hfd] at hf; cases hf
  | some x =>
    rw [hfd] at hf
    simp only [Option.map_some, Option.some.injEq] at hf
    subst hf
    exact (h x (List.mem_of_find?_eq_some hfd)).2
theorem miTy : Tryd.prog.underlying 82 = some (.map 3 3) := Tryd.underlying82
theorem zeroInt (w : World) : (zeroValue 3).run Tryd.prog w = .ok (.int .i64 0) w := by kernel_rfl

theorem closure_call {w : World} {v : Value} {p : Pnd} {bm n0 : Nat} {f : SF} {n : Int} (hp : PnIs w v p) (hpo : PnOk p) (hs : Secs w bm f n0) (hf : FinK f n0) (hn : InI n) {fn : FuncId} {args : Array Value}
    (hv : ∃ caps, v = .func (Fn.func fn) #[] caps ∧ args = #[.map (some bm), .int .i64 n] ++ caps) :
    Calls Tryd.prog fn args w fun e w' => e = .returned (.tuple #[]) ∧ Secs w' bm (doP (f, n0) p n).1 (doP (f, n0) p n).2 ∧ w.grownBy w' (some bm) := by
  obtain ⟨fn', caps', hf', hcall⟩ := closure_any hp hpo hs hf hn (Q := fun e w' => e = .returned (.tuple #[]) ∧ Secs w' bm (doP (f, n0) p n).1 (doP (f, n0) p n).2 ∧ w.grownBy w' (some bm)) (fun w' h1 h2 => ⟨rfl, h1, h2⟩)
  obtain ⟨caps, hpv, harg⟩ := hv
  rw [hpv] at hf'
  injection hf' with hf1 hf2 hf3
  injection hf1 with hf1
  subst hf1 hf3
  exact hcall args harg
/-- The second loop: so many pending writes were looked at. -/
structure CrSt (w wr : World) (h : Zn) (D : Dsk) (l : List (Int × Int)) (vs : List Value) (i nl : Nat) : Prop where
  blk : Blk wr h.g 65 #[.int .i64 D.size, .int .i64 D.limit, .map (some h.bv), .map (some h.bg), h.pv]
  ground : Secs wr h.bg (crashF l 0 (D.pend.take i) (D.ground, D.ng)).1 (crashF l 0 (D.pend.take i) (D.ground, D.ng)).2
  pend : Ow 84 wr 0 h.pv vs ∧ PnL wr vs D.pend
  left : ∃ lm, MpV Tryd.prog 3 wr w.heap.size lm nl ∧ ∀ a, InI a → lm a = (fstOf l a).map (Value.int .i64)
  turn : Turn h.has w wr
  bgl : h.bg < w.heap.size

theorem crst_step {w wr w3 : World} {h : Zn} {D : Dsk} {l : List (Int × Int)} {vs : List Value} {i nl : Nat} (hst : CrSt w wr h D l vs i nl)
    (hs3 : Secs w3 h.bg (crashF l 0 (D.pend.take (i + 1)) (D.ground, D.ng)).1 (crashF l 0 (D.pend.take (i + 1)) (D.ground, D.ng)).2) (hg3 : wr.grownBy w3 (some h.bg)) : CrSt w w3 h D l vs (i + 1) nl := by
  have kv := hst.ground.kind
  obtain ⟨lm, hlm, hlv⟩ := hst.left
  refine ⟨hst.blk.grown hg3 (fun e => ?_), hs3, ⟨hst.pend.1.other (fun e => ?_) hg3, hst.pend.2.keep fun v p hp => hp.other (fun t ht => by rw [kv]; simp) hg3⟩, ⟨lm, ?_, hlv⟩, hst.turn.trans (Turn.of_grown (F := h.has) hg3 (fun z hz => by injection hz with hz; exact .inr (.inr (.inl hz.symm)))) (fun b hb => .inl hb), hst.bgl⟩
  · injection e with e
    have e2 : h.g = h.bg := by first | exact e | exact e.symm
    exact absurd ((kind_blk hst.blk).symm.trans ((congrArg (kindAt _) e2).trans kv)) (by simp)
  · have := kind_own hst.pend.1 e
    rw [kv] at this
    cases this
  · exact hlm.other (by have := hst.bgl; omega) hg3

set_option maxHeartbeats 2000000 in
set_option maxRecDepth 100000 in
theorem dcrash_any (h : Zn) (D : Dsk) (S : Nat → Prop) (v0 : Value) (l : List (Int × Int)) (w : World) (hd : Dk w h D) (hok : D.Ok) (hsv : Sv S w v0 l) (hin : ∀ x ∈ l, InI x.1 ∧ InI x.2) (hll : l.length ≤ 1000000) (hlen : D.pend.length ≤ 1000000000) :
    Calls Tryd.prog 11 #[.pointer (some ⟨h.g, 0, none⟩), v0] w fun e w' => e = .returned (.tuple #[]) ∧ ∃ h', Dk w' h' (D.crash l) ∧ Stp h w h' w' := by
  obtain ⟨g, bv, bg, sl⟩ := h
  obtain ⟨A, c, rfl, hA⟩ := hsv.at
  have HA := Lib.hid hA
  have HD := Lib.hid hd
  have HOK := Lib.hid hok
  have HIN := Lib.hid hin
  have hmm := @run_makeMap Tryd.prog
  have hM0 : Hid (MpV Tryd.prog 3 (w.alloc (.map #[] 0)) w.heap.size (fun _ => none) 0) := MpV.made _ _ w
  have q0 : Below w.heap.size w (w.alloc (.map #[] 0)) := (Below.refl _ _).alloc (Nat.le_refl _) _
  clear hd hok hin hA hsv
  go_enter Tryd.func11, Tryd.ntmps11
  go_wp2_with fail
  go_loopw [5] (fun iv wr => ∃ (i : Nat) (lm : Int → Option Value) (nl : Nat), iv = .int .i64 ((i : Int) - 1) ∧ i ≤ l.length ∧ nl ≤ l.length - i ∧ MpV Tryd.prog 3 wr w.heap.size lm nl ∧ Hid (∀ a, InI a → lm a = (fstOf (l.drop i) a).map (Value.int .i64)) ∧ Below w.heap.size w wr) (fun iv _ => (intOf iv + 1).toNat)
  case atStart =>
    exact ⟨l.length, _, 0, rfl, Nat.le_refl _, by omega, hM0.out, fun a _ => by rw [List.drop_length]; rfl, q0⟩
  case round =>
    obtain ⟨i, lm, nl, rfl, hi, hnl, hm, hlm, hbl⟩ := hrel
    have HM := Lib.hid hm
    clear hm
    rcases i with _ | j
    · have HLM : Hid (∀ a, InI a → lm a = (fstOf l a).map (Value.int .i64)) := fun a ha => by have := hlm.out a ha; rw [List.drop_zero] at this; exact this
      obtain ⟨vs, hown, hpl⟩ := HD.out.pend
      obtain ⟨A0, c0, hsl, hsA⟩ := Ow.shape hown
      simp only at hsl
      subst hsl
      have HVL := Lib.hid hpl.1
      have hvb : vs.length ≤ 1000000000 := by have := hpl.1; omega
      have hbvl := HD.out.view.lt
      have hbgl := HD.out.ground.lt
      have hgl := HD.out.blk.lt
      simp only at hbvl hbgl hgl
      have qr := hbl
      have hsz := qr.size
      have d1 := HD.out.later qr
      have HSA : Hid (0 < vs.length → ∃ g', A0 = some ⟨g', 0, none⟩) := fun h0 => by obtain ⟨g', h1, _⟩ := hsA h0; exact ⟨g', h1⟩
      have S0 : CrSt w wr ⟨g, bv, bg, .slice A0 vs.length c0⟩ D l vs 0 nl := ⟨d1.blk, by rw [List.take_zero]; exact d1.ground, ⟨Ow.later hown qr, hpl.keep fun _ _ h => h.later qr⟩, ⟨lm, HM.out, HLM.out⟩, Turn.of_below qr, hbgl⟩
      have c4 : wr.cell? ⟨g, 4, none⟩ = some (.slice A0 vs.length c0) := d1.blk.cell 4
      clear d1 hsA hpl hown hlm hbl HM HLM qr
      go_wp2_with fail
      go_loopw [34] (fun iv wq => ∃ i : Nat, iv = .int .i64 (i : Int) ∧ i ≤ vs.length ∧ CrSt w wq ⟨g, bv, bg, .slice A0 vs.length c0⟩ D l vs i nl) (fun iv _ => vs.length - (intOf iv).toNat)
      case atStart => exact ⟨0, rfl, Nat.zero_le _, S0⟩
      case round =>
        clear S0
        obtain ⟨i, rfl, hi, hst⟩ := hrel
        have HST := Lib.hid hst
        have c2 : wr.cell? ⟨g, 2, none⟩ = some (.map (some bv)) := hst.blk.cell 2
        have c3 : wr.cell? ⟨g, 3, none⟩ = some (.map (some bg)) := hst.blk.cell 3
        have c4 : wr.cell? ⟨g, 4, none⟩ = some (.slice A0 vs.length c0) := hst.blk.cell 4
        have HFK : Hid (FinK (crashF l 0 (D.pend.take i) (D.ground, D.ng)).1 (crashF l 0 (D.pend.take i) (D.ground, D.ng)).2) := crashF_ok l _ 0 _ HOK.out.ground fun p hp => HOK.out.pend p (List.mem_of_mem_take hp)
        have hlenv := HVL.out
        by_cases hil : i < vs.length
        · obtain ⟨g', c', hv', _, hg'l, hcells, _⟩ := Ow.open hst.pend.1 (by omega)
          injection hv' with hA' _ hc'
          subst hA' hc'
          have cp : wr.cell? ⟨g', i, none⟩ = some vs[i] := hcells i hil
          have hps : i < D.pend.length := by omega
          have hpn := hst.pend.2.2 i vs[i] D.pend[i] (List.getElem?_eq_getElem hil) (List.getElem?_eq_getElem hps)
          obtain ⟨lm, hlm, hlv⟩ := hst.left
          have hii : InI (i : Int) := by unfold InI; omega
          have hlk := hlm.look intTy miTy (zeroInt wr) hii
          rw [hlv _ hii] at hlk
          have HEQ : Hid (crashF l 0 (D.pend.take (i + 1)) (D.ground, D.ng) = match fstOf l (i : Int) with | some n => doP (crashF l 0 (D.pend.take i) (D.ground, D.ng)) D.pend[i] n | none => crashF l 0 (D.pend.take i) (D.ground, D.ng)) := by
            rw [Hid, List.take_succ_eq_append_getElem hps, crashF_snoc, List.length_take, Nat.zero_add, Nat.min_eq_left (Nat.le_of_lt hps)]
            rfl
          obtain ⟨vq, hvq0⟩ : ∃ v, vs[i] = v := ⟨_, rfl⟩
          rw [hvq0] at cp hpn
          have hiv : (i : Int) < (vs.length : Int) := by omega
          have hi0 : (0 : Int) ≤ (i : Int) := by omega
          clear hst hcells hlm hlv hvq0 hlenv
          cases hk : fstOf l (i : Int) with
          | none =>
            rw [hk] at hlk
            simp only [Option.map_none, Option.getD_none, Option.isSome_none] at hlk
            have HEQ2 : Hid (crashF l 0 (D.pend.take (i + 1)) (D.ground, D.ng) = crashF l 0 (D.pend.take i) (D.ground, D.ng)) := by rw [Hid, HEQ.out, hk]
            cases hpe : D.pend[i] with
            | wr a b =>
              rw [hpe] at hpn
              obtain ⟨ga, gb, Ab, cb, hvq, _⟩ := hpn
              rw [hvq] at cp
              clear hpe
              go_wp2_with fail
              go_roundw
              case rel => exact ⟨i + 1, by go_num, by omega, ⟨HST.out.blk, by rw [HEQ2.out]; exact HST.out.ground, HST.out.pend, HST.out.left, HST.out.turn, HST.out.bgl⟩⟩
              case measure => simp [intOf]; omega
            | fr a =>
              rw [hpe] at hpn
              obtain ⟨ga, hvq, _⟩ := hpn
              rw [hvq] at cp
              clear hpe
              go_wp2_with fail
              go_roundw
              case rel => exact ⟨i + 1, by go_num, by omega, ⟨HST.out.blk, by rw [HEQ2.out]; exact HST.out.ground, HST.out.pend, HST.out.left, HST.out.turn, HST.out.bgl⟩⟩
              case measure => simp [intOf]; omega
          | some n =>
            rw [hk] at hlk
            simp only [Option.map_some, Option.getD_some, Option.isSome_some] at hlk
            have hnI : InI n := fstOf_in HIN.out hk
            rw [hk] at HEQ
            simp only at HEQ
            cases hpe : D.pend[i] with
            | wr a b =>
              rw [hpe] at hpn
              have HPN := Lib.hid hpn
              have HEQ2 : Hid (crashF l 0 (D.pend.take (i + 1)) (D.ground, D.ng) = doP (crashF l 0 (D.pend.take i) (D.ground, D.ng)) (.wr a b) n) := by rw [Hid, HEQ.out, hpe]
              have HPO2 : Hid (PnOk (.wr a b)) := by rw [Hid, ← hpe]; exact HOK.out.pend _ (List.getElem_mem hps)
              obtain ⟨ga, gb, Ab, cb, hvq, _⟩ := hpn
              rw [hvq] at cp
              have HCC : Hid (∀ args, (∃ caps, vq = .func (Fn.func 68) #[] caps ∧ args = #[.map (some bg), .int .i64 n] ++ caps) → Calls Tryd.prog 68 args wr fun e w' => e = .returned (.tuple #[]) ∧ Secs w' bg (doP (crashF l 0 (D.pend.take i) (D.ground, D.ng)) (.wr a b) n).1 (doP (crashF l 0 (D.pend.take i) (D.ground, D.ng)) (.wr a b) n).2 ∧ wr.grownBy w' (some bg)) := fun args hx => closure_call HPN.out HPO2.out HST.out.ground HFK.out hnI hx
              clear hpe
              go_wp2_with fail
              refine Calls.mono (HCC.out _ ⟨_, hvq, rfl⟩) ?_
              rintro e w3 ⟨rfl, hs3, hg3⟩
              have HS3 := Lib.hid hs3
              have HG3 := Lib.hid hg3
              clear hs3 hg3
              go_wp2_with fail
              go_roundw
              case rel =>
                repeat (apply Exists.intro)
                apply And.intro
                rotate_left 1
                · rfl
                all_goals first
                  | exact ⟨i + 1, by go_num, by omega, crst_step HST.out (by rw [HEQ2.out]; exact HS3.out) HG3.out⟩
                  | exact undef
              case measure => simp [intOf]; omega
            | fr a =>
              rw [hpe] at hpn
              have HPN := Lib.hid hpn
              have HEQ2 : Hid (crashF l 0 (D.pend.take (i + 1)) (D.ground, D.ng) = doP (crashF l 0 (D.pend.take i) (D.ground, D.ng)) (.fr a) n) := by rw [Hid, HEQ.out, hpe]
              have HPO2 : Hid (PnOk (.fr a)) := by rw [Hid, ← hpe]; exact HOK.out.pend _ (List.getElem_mem hps)
              obtain ⟨ga, hvq, _⟩ := hpn
              rw [hvq] at cp
              have HCC : Hid (∀ args, (∃ caps, vq = .func (Fn.func 67) #[] caps ∧ args = #[.map (some bg), .int .i64 n] ++ caps) → Calls Tryd.prog 67 args wr fun e w' => e = .returned (.tuple #[]) ∧ Secs w' bg (doP (crashF l 0 (D.pend.take i) (D.ground, D.ng)) (.fr a) n).1 (doP (crashF l 0 (D.pend.take i) (D.ground, D.ng)) (.fr a) n).2 ∧ wr.grownBy w' (some bg)) := fun args hx => closure_call HPN.out HPO2.out HST.out.ground HFK.out hnI hx
              clear hpe
              go_wp2_with fail
              refine Calls.mono (HCC.out _ ⟨_, hvq, rfl⟩) ?_
              rintro e w3 ⟨rfl, hs3, hg3⟩
              have HS3 := Lib.hid hs3
              have HG3 := Lib.hid hg3
              clear hs3 hg3
              go_wp2_with fail
              go_roundw
              case rel =>
                repeat (apply Exists.intro)
                apply And.intro
                rotate_left 1
                · rfl
                all_goals first
                  | exact ⟨i + 1, by go_num, by omega, crst_step HST.out (by rw [HEQ2.out]; exact HS3.out) HG3.out⟩
                  | exact undef
              case measure => simp [intOf]; omega
        · obtain rfl : i = vs.length := by omega
          have HEQ : Hid (D.pend.take vs.length = D.pend) := by rw [Hid, HVL.out, List.take_length]
          clear hst hlenv
          go_wp2_with fail
          refine (copied_any bg _ _ wr HST.out.ground HFK.out).mono ?_
          rintro e w1 ⟨bo, rfl, hbo, hs, hbl⟩
          have b1 := HST.out.blk.later hbl
          have HB1 := Lib.hid b1
          have HS := Lib.hid hs
          have HBL := Lib.hid hbl
          have c2 : w1.cell? ⟨g, 2, none⟩ = some (.map (some bv)) := b1.cell 2
          have c4 : w1.cell? ⟨g, 4, none⟩ = some _ := b1.cell 4
          have f2 := b1.free 2
          have f4 := b1.free 4
          clear b1 hs hbl
          go_wp2_with fail
          go_end0
          have kd := kind_blk HB1.out
          have b2 := HB1.out.put 2 (.map (some bo))
          have kd1 := kind_blk b2
          have hk : ∀ {b n : Nat} {f : SF}, Secs w1 b f n → Secs ((w1.setCell ⟨g, 2, none⟩ (.map (some bo))).setCell ⟨g, 4, none⟩ (.slice none 0 0)) b f n := fun hs => by
            have h1 := hs.other (z := g) (fun e => by have := hs.kind; rw [e] at this; rw [kd] at this; cases this) (by rw [kd]; decide) (grown_cell (g := g) (i := 2) (.map (some bo)))
            exact h1.other (z := g) (fun e => by have := h1.kind; rw [e] at this; rw [kd1] at this; cases this) (by rw [kd1]; decide) (grown_cell (g := g) (i := 4) (.slice none 0 0))
          have gr := HST.out.ground.later HBL.out
          have grl := HST.out.ground.lt
          rw [HEQ.out] at gr HS
          have hszq := HST.out.turn.size
          refine ⟨rfl, ⟨g, bo, bg, .slice none 0 0⟩, ⟨b2.put 4 _, hk HS.out, hk gr, fun e => by simp only at e grl; omega, [], World.ownsRow_nil _ _ _ _, PnL.nil _⟩, rfl, ((HST.out.turn.trans (Turn.of_below (F := fun _ => False) HBL.out) (fun _ h => h.elim)).setCell (.inl (.inl rfl)) _).setCell (.inl (.inl rfl)) _, fun b hb => ?_⟩
          rcases hb with h | h | h | h
          · exact .inl (.inl h)
          · right; simp only at h; omega
          · exact .inl (.inr (.inr (.inl h)))
          · cases h
    · obtain ⟨b, o, rfl, hbs, hc⟩ := HA.out (by omega)
      have hjl : j < l.length := by omega
      have c0 : wr.cell? ⟨b, o + j * 2, none⟩ = some (.int .i64 l[j].1) := (hbl.cell (p := ⟨b, o + j * 2, none⟩) hbs).trans (hc j hjl).1
      have c1 : wr.cell? ⟨b, o + j * 2 + 1, none⟩ = some (.int .i64 l[j].2) := (hbl.cell (p := ⟨b, o + j * 2 + 1, none⟩) hbs).trans (hc j hjl).2
      have hj0 : (0 : Int) ≤ (j : Int) := by omega
      have hjc : (j : Int) < (l.length : Int) := by omega
      have HLM := Lib.hid hlm.out
      have hwj : IntKind.i64.wrap ((j : Int) - 1) = (j : Int) - 1 := IntWalk.i64_in _ (by omega)
      have hij := HIN.out _ (List.getElem_mem hjl)
      have HFD := Lib.hid (fun a => fstOf_drop hjl a)
      obtain ⟨w3, hrun3, hm3, ht3⟩ := (MpV.drew HM.out).put intTy miTy (by unfold maxLen; omega) hij.1 (.int .i64 l[j].2)
      have HM3 := Lib.hid hm3
      have HT3 := Lib.hid ht3
      have HBL := Lib.hid (hbl.drew)
      have c0d : wr.drew.cell? ⟨b, o + j * 2, none⟩ = some (.int .i64 l[j].1) := c0
      have c1d : wr.drew.cell? ⟨b, o + j * 2 + 1, none⟩ = some (.int .i64 l[j].2) := c1
      generalize l[j].1 = p1 at *
      generalize l[j].2 = p2 at *
      clear hc hlm hbl hm3 ht3 hij
      go_wp2_with fail
      go_still_tail 11, (by kernel_rfl)
      change wpList _ _ _ _ _ wr.drew
      generalize wr.drew = w2 at *
      go_wp2_with fail
      go_roundw
      case rel =>
        refine ⟨j, _, _, by simp, by omega, ?_, HM3.out, fun a ha => ?_, HBL.out.grown HT3.out.grown HBL.out.size (fun k hk => by injection hk with hk; omega)⟩
        · unfold nPut; split <;> omega
        · simp only [HFD.out a]
          by_cases hap : a = p1
          · simp only [hap, if_true]; rfl
          · simp only [hap, if_false]
            exact HLM.out a ha
      case measure => first | (simp [intOf]; done) | (simp [intOf]; omega)
end Go.Proofs.YtpmndmgfoiagnaaDoor
