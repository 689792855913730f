/- The statements of layer 9: SpaceOf. -/
import Derived.Test.YtlhdeclimodfdaaDoorSpaI
namespace Go.Proofs.YtlhdeclimodfdaaDoor
open Go Go.RowKit
set_option linter.unusedVariables false

/-! ### Bytes that are a space are its bytes -/
theorem rdCount_inv {s : List UInt8} {e : Nat} {m : Int} (h : (rdCount s e m).2.2 = 0) : e = 0 ∧ s = varB (rdCount s e m).1 ++ (rdCount s e m).2.1 := by
  unfold rdCount at h ⊢
  by_cases he : e = 0
  · subst he
    rw [if_neg (by simp)] at h ⊢
    cases hg : getVarB s with
    | error er => rw [hg] at h; exact absurd h (rdErr_le hg).2
    | ok xn =>
      obtain ⟨x, n⟩ := xn
      rw [hg] at h
      simp only at h ⊢
      split at h
      · cases h
      · rename_i hm
        rw [if_neg hm]
        exact ⟨trivial, (getVarB_only hg).1⟩
  · rw [if_pos he] at h
    exact absurd h he
theorem encR_rep : ∀ (c r : Nat) (t : Bool) (rest : List Bool), encR r t (List.replicate c t ++ rest) = encR (r + c) t rest
  | 0, r, t, rest => by simp
  | c + 1, r, t, rest => by
    rw [List.replicate_succ, List.cons_append, encR, if_pos rfl, encR_rep c (r + 1) t rest, show r + 1 + c = r + (c + 1) by omega]
theorem encR_turn {r : Nat} {t : Bool} {rest : List Bool} (h0 : 0 < rest.length) (h : rest.getD 0 false = !t) : encR r t rest = varB r ++ encR 0 (!t) rest := by
  match rest, h0, h with
  | b :: l, _, h =>
    have hb : b = !t := by simpa using h
    rw [encR, if_neg (by rw [hb]; cases t <;> simp), encR, if_pos hb, hb]
theorem ofR_inv (n : Nat) (m : List Bool) (r : List UInt8) : ∀ (k : Nat) (acc : List Bool) (t : Bool) (s : List UInt8) (e : Nat), acc.length < n → ofR n k acc t (s, e) = some (m, (r, 0)) →
    e = 0 ∧ ∃ rest, m = acc ++ rest ∧ s = encR 0 t rest ++ r ∧ 0 < rest.length ∧ ((0 < acc.length ∨ t = true) → rest.getD 0 false = t)
  | 0, acc, t, s, e, _, h => by rw [ofR] at h; cases h
  | k + 1, acc, t, s, e, hlt, h => by
    by_cases hst : (rdCount s e ((n - acc.length : Nat) : Int)).1 = 0 ∧ (0 < acc.length ∨ t = true)
    · rw [ofR_none hlt hst.1 hst.2] at h; cases h
    · rw [ofR_next hlt hst] at h
      simp only at h
      have hinv := @rdCount_inv s e ((n - acc.length : Nat) : Int)
      generalize rdCount s e ((n - acc.length : Nat) : Int) = c at *
      obtain ⟨run, s', e'⟩ := c
      simp only at h hst hinv
      by_cases hl2 : (acc ++ List.replicate run t).length < n
      · obtain ⟨he', rest', hm, hs', hr0, hr1⟩ := ofR_inv n m r k _ _ _ _ hl2 h
        obtain ⟨he, hs⟩ := hinv he'
        have hg : rest'.getD 0 false = !t := hr1 (by
          by_cases h0 : run = 0
          · right
            cases t with
            | false => rfl
            | true => exact absurd ⟨h0, .inr rfl⟩ hst
          · left; simp; omega)
        refine ⟨he, List.replicate run t ++ rest', by rw [hm, List.append_assoc], ?_, by simp; omega, fun hh => ?_⟩
        · rw [hs, hs', encR_rep, encR_turn hr0 hg, Nat.zero_add, List.append_assoc]
        · have h0 : run ≠ 0 := fun h0 => hst ⟨h0, hh⟩
          obtain ⟨run, rfl⟩ : ∃ r', run = r' + 1 := ⟨run - 1, by omega⟩
          rw [List.replicate_succ]; rfl
      · match k, h with
        | 0, h => rw [ofR] at h; cases h
        | k + 1, h =>
          rw [ofR_end hl2] at h
          injection h with h
          injection h with hm h
          injection h with hs' he'
          obtain ⟨he, hs⟩ := hinv he'
          have hrun : 0 < run := by simp at hl2; omega
          refine ⟨he, List.replicate run t, hm.symm, ?_, by simpa using hrun, fun _ => ?_⟩
          · have := encR_rep run 0 t []
            rw [List.append_nil] at this
            rw [this, Nat.zero_add, encR, hs, hs']
          · obtain ⟨run, rfl⟩ : ∃ r', run = r' + 1 := ⟨run - 1, by omega⟩
            rw [List.replicate_succ]; rfl
theorem ofR_len (n : Nat) : ∀ (k : Nat) (acc : List Bool) (t : Bool) (s : List UInt8 × Nat) (m : List Bool) (s' : List UInt8 × Nat), s.2 ≤ 1000 → acc.length ≤ n → ofR n k acc t s = some (m, s') → m.length = n
  | 0, acc, t, s, m, s', _, _, h => by rw [ofR] at h; cases h
  | k + 1, acc, t, s, m, s', he, hle, h => by
    by_cases hlt : acc.length < n
    · by_cases hst : (rdCount s.1 s.2 ((n - acc.length : Nat) : Int)).1 = 0 ∧ (0 < acc.length ∨ t = true)
      · rw [ofR_none hlt hst.1 hst.2] at h; cases h
      · rw [ofR_next hlt hst] at h
        have hb := rdCount_le s.1 s.2 (n - acc.length) he
        exact ofR_len n k _ _ _ m s' hb.2.2 (by simp; omega) h
    · rw [ofR_end hlt] at h
      injection h with h
      injection h with hm _
      rw [← hm]; omega
theorem spB_ofB {l : List UInt8} {m : List Bool} (h : ofB l = some m) : spB m = l := by
  unfold ofB at h
  have hinv := @rdCount_inv l 0 256
  have hle := rdCount_le l 0 256 (by omega)
  rw [show ((256 : Nat) : Int) = 256 from rfl] at hle
  generalize rdCount l 0 256 = c at *
  obtain ⟨n, s, e⟩ := c
  simp only at h hinv hle
  split at h
  · cases h
  · rename_i hn
    cases ho : ofR n (n + 2) [] false (s, e) with
    | none => rw [ho] at h; cases h
    | some x =>
      obtain ⟨acc, r, e2⟩ := x
      rw [ho] at h
      simp only at h
      split at h
      · rename_i hend
        injection h with h
        subst h
        unfold rdEnd at hend
        have he2 : e2 = 0 ∧ r = [] := by
          split at hend
          · cases hend
          · rename_i hc
            exact ⟨hend, List.eq_nil_of_length_eq_zero (by omega)⟩
        obtain ⟨rfl, rfl⟩ := he2
        obtain ⟨he, rest, hm, hs, _, _⟩ := ofR_inv n acc [] _ _ _ _ _ (by simp; omega) ho
        have hlen := ofR_len n _ _ _ _ _ _ hle.2.2 (by simp) ho
        obtain ⟨_, hl⟩ := hinv he
        rw [List.nil_append] at hm
        subst hm
        rw [spB_enc, hlen, hl, hs, List.append_nil]
      · cases h

/-! ### The document's Num and Of -/
def numV (l : List UInt8) : Nat × List UInt8 × Nat := match getVarB l with
  | .error er => (0, l, rdErr er)
  | .ok (x, n) => (x, l.drop n, 0)
theorem numV_le (l : List UInt8) : (numV l).1 < U64 ∧ (numV l).2.1.length ≤ l.length ∧ (numV l).2.2 ≤ 1000 := by
  unfold numV
  cases h : getVarB l with
  | error er => exact ⟨by show (0 : Nat) < U64; unfold U64; decide, Nat.le_refl _, (rdErr_le h).1⟩
  | ok xn => obtain ⟨x, n⟩ := xn; exact ⟨(getVarB_bound h).1, by simp, by simp⟩
theorem rdCount_num (l : List UInt8) (m : Nat) : (numV l).2.2 = 0 → rdCount l 0 (m : Int) = if m < (numV l).1 then (0, l, 32) else numV l := by
  intro h
  unfold rdCount numV at *
  rw [if_neg (by simp)]
  cases hg : getVarB l with
  | error er => rw [hg] at h; exact absurd h (rdErr_le hg).2
  | ok xn =>
    obtain ⟨x, n⟩ := xn
    simp only
    by_cases hx : m < x
    · rw [if_pos (by omega), if_pos hx]
    · rw [if_neg (by omega), if_neg hx]
theorem rdCount_bad (l : List UInt8) (m : Nat) : (numV l).2.2 ≠ 0 → rdCount l 0 (m : Int) = (0, l, (numV l).2.2) := by
  intro h
  unfold rdCount numV at *
  rw [if_neg (by simp)]
  cases hg : getVarB l with
  | error er => rfl
  | ok xn => obtain ⟨x, n⟩ := xn; rw [hg] at h; exact absurd rfl h
/-- A fault stays. -/
theorem ofR_fault {n k : Nat} {acc : List Bool} {t : Bool} {s s' : List UInt8} {er : Nat} (h : acc.length < n) (hc : rdCount s 0 ((n - acc.length : Nat) : Int) = (0, s', er)) (he : er ≠ 0) : ofR n k acc t (s, 0) = none := by
  match k with
  | 0 => rfl
  | k + 1 =>
    by_cases hst : 0 < acc.length ∨ t = true
    · exact ofR_none h (by simp only [hc]) hst
    · rw [ofR_next h (by simp only [hc]; rintro ⟨_, h2⟩; exact hst h2)]
      simp only [hc]
      match k with
      | 0 => rfl
      | k + 1 =>
        have hc2 : rdCount s' er ((n - (acc ++ List.replicate 0 t).length : Nat) : Int) = (0, s', er) := by unfold rdCount; rw [if_pos he]
        refine ofR_none (by simpa using h) (by simp only [hc2]) (.inr ?_)
        cases t with
        | false => rfl
        | true => exact absurd (.inr rfl) hst

set_option maxHeartbeats 400000 in
theorem refNum_any (l : List UInt8) (w : World) (hl : l.length ≤ 1099511627776) :
    Calls Tryd.prog 36 #[.string (st l)] w fun e w' => e = .returned (.tuple #[.int .u64 ((numV l).1 : Int), .string (st (numV l).2.1), .int .i64 ((numV l).2.2 : Int)]) ∧ Below w.heap.size w w' := by
  cases hg : getVarB l with
  | error er =>
    have HG := Lib.hid hg
    have HN : Hid (numV l = (0, l, rdErr er)) := by unfold numV; rw [hg]; rfl
    have he : er = 10 ∨ er = 12 := getV_errs l 0 0 er hg
    clear hg
    rcases he with rfl | rfl
    all_goals
      go_enter Tryd.func36, Tryd.ntmps36
      go_wp2_with fail
      refine (refGetVar_any l w hl).mono ?_
      rintro e w1 ⟨rfl, rfl⟩
      rw [HG.out]
      simp only [refVal]
      go_wp2_with fail
      go_ret3
      rw [HN.out]
      exact ⟨rfl, Below.refl _ _⟩
  | ok xn =>
    obtain ⟨x, n⟩ := xn
    have HG := Lib.hid hg
    have HN : Hid (numV l = (x, l.drop n, 0)) := by unfold numV; rw [hg]; rfl
    have hdt : (l.drop n).take (l.length - n) = l.drop n := List.take_of_length_le (by simp)
    obtain ⟨_, hn1, hn2⟩ := getVarB_bound hg
    clear hg
    go_enter Tryd.func36, Tryd.ntmps36
    go_wp2_with fail
    refine (refGetVar_any l w hl).mono ?_
    rintro e w1 ⟨rfl, rfl⟩
    rw [HG.out]
    simp only [refVal]
    go_wp2_with fail
    go_quiet (fail)
    go_wp2_with fail
    go_ret3
    rw [HN.out]
    exact ⟨rfl, below_drewN (Below.refl _ _) _⟩

def tvK : Value → Nat | .bool true => 0 | _ => 1
def lenV : Value → Nat | .slice _ k _ => k | _ => 0
def RefOfPost (l : List UInt8) (w : World) (e : Ending) (w' : World) : Prop :=
  ((∃ m v, ofB l = some m ∧ e = .returned (.tuple #[v, .bool true]) ∧ Fl w' w.heap.size v m) ∨ (ofB l = none ∧ ∃ v, e = .returned (.tuple #[v, .bool false]))) ∧ Below w.heap.size w w'

set_option maxHeartbeats 2000000 in
set_option maxRecDepth 100000 in
theorem refOf9_any (l : List UInt8) (w : World) (hl : l.length ≤ 1099511627776) :
    Calls Tryd.prog 19 #[.string (st l)] w (RefOfPost l w) := by
  have hbad := rdCount_bad l 256
  have hnum := rdCount_num l 256
  rw [show ((256 : Nat) : Int) = 256 from rfl] at hbad hnum
  obtain ⟨hx64, hrl, he1000⟩ := numV_le l
  have hcall := refNum_any l w hl
  generalize hv : numV l = c at *
  obtain ⟨n, r0, er⟩ := c
  simp only at hbad hnum hx64 hrl he1000 hcall
  have HC := Lib.hid hcall
  have U : U64 = 18446744073709551616 := rfl
  rw [U] at hx64
  clear hcall hv U
  by_cases her : er = 0
  · subst her
    have hnum := hnum rfl
    by_cases hn : n < 1 ∨ 256 < n
    · have HB : Hid (ofB l = none) := by
        unfold ofB
        rw [hnum]
        rcases hn with h | h
        · obtain rfl : n = 0 := by omega
          rfl
        · rw [if_pos h]; rfl
      clear hbad hnum
      rcases hn with h | h
      · obtain rfl : n = 0 := by omega
        go_enter Tryd.func19, Tryd.ntmps19
        go_wp2_with fail
        refine HC.out.mono ?_
        rintro e w1 ⟨rfl, hbl1⟩
        go_wp2_with fail
        go_ret2
        exact ⟨.inr ⟨HB.out, _, rfl⟩, hbl1⟩
      · have h1 : ¬ (n : Int) < 1 := by omega
        have h2 : (256 : Int) < (n : Int) := by omega
        go_enter Tryd.func19, Tryd.ntmps19
        go_wp2_with fail
        refine HC.out.mono ?_
        rintro e w1 ⟨rfl, hbl1⟩
        go_wp2_with fail
        go_ret2
        exact ⟨.inr ⟨HB.out, _, rfl⟩, hbl1⟩
    · rw [if_neg (by omega)] at hnum
      have HCE : Hid (∀ x, ofR n (n + 2) [] false (r0, 0) = x → ofB l = match x with | none => none | some (acc, s) => if rdEnd s.1 s.2 = 0 then some acc else none) := by
        intro x hx
        unfold ofB
        rw [hnum]
        simp only
        rw [if_neg (by omega), hx]
        cases x <;> rfl
      clear hbad hnum
      have hn1 : 1 ≤ n := by omega
      have hn2 : n ≤ 256 := by omega
      have h1 : ¬ (n : Int) < 1 := by omega
      have h2 : ¬ (256 : Int) < (n : Int) := by omega
      clear hn hx64
      go_enter Tryd.func19, Tryd.ntmps19
      go_wp2_with fail
      refine HC.out.mono ?_
      rintro e w1 ⟨rfl, hbl1⟩
      go_wp2_with fail
      clear h1 h2
      have R0 : Fl (w1.alloc (.cells #[] 4)) w.heap.size (.slice (some ⟨w1.heap.size, 0, none⟩) 0 0) [] ∧ Below w.heap.size w (w1.alloc (.cells #[] 4)) := ⟨Ow.made _ _ _ hbl1.size rfl, hbl1.alloc hbl1.size _⟩
      go_loopw [5, 7, 8, 9, 10, 11, 12] (fun sv lv tv _ _ _ _ wr => ∃ (k : Nat) (acc : List Bool) (t : Bool) (s : List UInt8) (A : Option Addr) (c : Nat), sv = .string (st s) ∧ lv = .slice A acc.length c ∧ tv = .bool t ∧ acc.length ≤ n ∧ s.length ≤ l.length ∧ (n - acc.length) + (if acc.length = 0 ∧ t = false then 2 else 1) ≤ k ∧
          Hid (ofR n (n + 2) [] false (r0, 0) = ofR n k acc t (s, 0)) ∧ Fl wr w.heap.size (.slice A acc.length c) acc ∧ Below w.heap.size w wr) (fun _ lv tv _ _ _ _ _ => 2 * (n - lenV lv) + tvK tv)
      case atStart => exact ⟨n + 2, [], false, r0, _, _, rfl, rfl, rfl, by simp, hrl, by simp, rfl, R0⟩
      case round =>
        obtain ⟨k, acc, t, s, A, c, rfl, rfl, rfl, hacc, hsl, hk, hof, hfl, hbl⟩ := hrel
        clear R0 hrl hbl1
        have hsz := hbl.size
        have HFL := Lib.hid hfl
        have hq := wrap_u64 (n := (acc.length : Int)) (by omega) (by unfold U64; omega)
        clear hfl
        obtain ⟨k, rfl⟩ : ∃ k', k = k' + 1 := ⟨k - 1, by split at hk <;> omega⟩
        by_cases hgo : acc.length < n
        · have hgi : (acc.length : Int) < (n : Int) := by omega
          have hbad := rdCount_bad s (n - acc.length)
          have hnum := rdCount_num s (n - acc.length)
          obtain ⟨hx64, hrl, he1000⟩ := numV_le s
          have hcall := refNum_any s wr (by omega)
          generalize hv : numV s = cc at *
          obtain ⟨run, s', er⟩ := cc
          simp only at hbad hnum hx64 hrl he1000 hcall
          have HCL := Lib.hid hcall
          have U : U64 = 18446744073709551616 := rfl
          rw [U] at hx64
          clear hcall hv U
          by_cases her : er = 0
          · subst her
            have hnum := hnum rfl
            have hsub : IntKind.u64.wrap ((n : Int) - (acc.length : Int)) = ((n - acc.length : Nat) : Int) := by rw [wrap_u64 (by omega) (by unfold U64; omega)]; omega
            by_cases hbig : n - acc.length < run
            · have HB : Hid (ofB l = none) := HCE.out _ (hof.trans (ofR_fault hgo (hnum.trans (if_pos hbig)) (by decide)))
              have d1 : ((n - acc.length : Nat) : Int) < (run : Int) := by omega
              clear hbad hnum hof
              go_wp2_with fail
              refine HCL.out.mono ?_
              rintro e w2 ⟨rfl, hbl2⟩
              go_wp2_with fail
              go_ret2
              exact ⟨.inr ⟨HB.out, _, rfl⟩, below_chain hbl hbl2⟩
            · rw [if_neg hbig] at hnum
              have HNM := Lib.hid hnum
              have d1 : ¬ ((n - acc.length : Nat) : Int) < (run : Int) := by omega
              clear hbad hnum
              by_cases hst : run = 0 ∧ (0 < acc.length ∨ t = true)
              · have HB : Hid (ofB l = none) := HCE.out _ (hof.trans (ofR_none hgo (by simp only [HNM.out]; exact hst.1) hst.2))
                obtain ⟨rfl, hc2⟩ := hst
                clear HNM hof
                by_cases ha0 : 0 < acc.length
                · have i2 : (0 : Int) < (acc.length : Int) := by omega
                  clear hc2
                  go_wp2_with fail
                  refine HCL.out.mono ?_
                  rintro e w2 ⟨rfl, hbl2⟩
                  go_wp2_with fail
                  go_ret2
                  exact ⟨.inr ⟨HB.out, _, rfl⟩, below_chain hbl hbl2⟩
                · obtain rfl : t = true := hc2.resolve_left ha0
                  have i2 : ¬ (0 : Int) < (acc.length : Int) := by omega
                  clear hc2
                  go_wp2_with fail
                  refine HCL.out.mono ?_
                  rintro e w2 ⟨rfl, hbl2⟩
                  go_wp2_with fail
                  go_ret2
                  exact ⟨.inr ⟨HB.out, _, rfl⟩, below_chain hbl hbl2⟩
              · have hx := @ofR_next n k acc t (s, 0) hgo (by simp only [HNM.out]; exact hst)
                simp only [HNM.out] at hx
                have HX := Lib.hid hx
                clear hx
                by_cases hr0 : run = 0
                · obtain ⟨ha, rfl⟩ : acc.length = 0 ∧ t = false := by
                    refine ⟨by have := fun h => hst ⟨hr0, .inl h⟩; omega, ?_⟩
                    cases t with
                    | false => rfl
                    | true => exact absurd ⟨hr0, .inr rfl⟩ hst
                  subst hr0
                  obtain rfl : acc = [] := List.eq_nil_of_length_eq_zero ha
                  have HX2 := HX.out
                  clear hst ha HX HNM
                  go_wp2_with fail
                  refine HCL.out.mono ?_
                  rintro e w2 ⟨rfl, hbl2⟩
                  have hf2 := HFL.out.later hbl2
                  have q2 := below_chain hbl hbl2
                  go_wp2_with fail
                  go_loop [7, 12] (fun lv jv => lv = .slice A 0 c ∧ jv = .int .u64 0) (fun _ _ => 0)
                  case atStart => exact ⟨rfl, rfl⟩
                  case round =>
                    obtain ⟨rfl, rfl⟩ := hrel
                    go_wp2_with fail
                    go_roundw
                    case rel => exact ⟨k, [], true, s', A, c, rfl, rfl, rfl, by simp, by omega, by simp at hk ⊢; omega, hof.trans (by simpa using HX2), hf2, q2⟩
                    case measure => simp [lenV, tvK]
                · have t0 : ((run : Int) == 0) = false := by rw [beq_eq_false_iff_ne]; omega
                  clear hst
                  cases t with
                  | true =>
                    go_wp2_with fail
                    refine HCL.out.mono ?_
                    rintro e w2 ⟨rfl, hbl2⟩
                    have R1 : Fl w2 w.heap.size (.slice A acc.length c) acc ∧ Below w.heap.size w w2 := ⟨HFL.out.later hbl2, below_chain hbl hbl2⟩
                    clear hbl2 HCL
                    go_wp2_with fail
                    go_loopw [7, 12] (fun lv jv wr2 => ∃ (j : Nat) (A : Option Addr) (c : Nat), lv = .slice A (acc ++ List.replicate j true).length c ∧ jv = .int .u64 (j : Int) ∧ j ≤ run ∧ Fl wr2 w.heap.size (.slice A (acc ++ List.replicate j true).length c) (acc ++ List.replicate j true) ∧ Below w.heap.size w wr2) (fun _ jv _ => run - (intOf jv).toNat)
                    case atStart => exact ⟨0, A, c, by simp, rfl, by omega, by simpa using R1.1, R1.2⟩
                    case round =>
                      obtain ⟨j, A3, c3, rfl, rfl, hj, hf3, hbl3⟩ := hrel
                      clear R1
                      have hsz3 := hbl3.size
                      have HF3 := Lib.hid hf3
                      have hqj := wrap_u64 (n := (j : Int) + 1) (by omega) (by unfold U64; omega)
                      have hlen : (acc ++ List.replicate j true).length ≤ 256 := by simp; omega
                      clear hf3
                      by_cases hjr : j < run
                      · have hsnoc : (acc ++ List.replicate j true) ++ [true] = acc ++ List.replicate (j + 1) true := by rw [List.replicate_succ', List.append_assoc]
                        have HSN := Lib.hid hsnoc
                        clear hsnoc
                        generalize (acc ++ List.replicate j true) = acj at *
                        go_wp2_with (at_builtin; go_loud (refine wpList_append_sl _ rfl (.tmp 69) (.tmp 71) elemBool rfl (Ow.later HF3.out ((Below.refl _ _).alloc (Nat.le_refl _) _)) (Sl.new1 _ _ _ (by simp)) rfl rfl (by intro y hy; obtain rfl := List.mem_singleton.1 hy; rfl) (by simp [bl_len, maxLen]; omega) (by simp [bl_len]; omega) (by simp; omega) ?_); intro A1 k1 c1 w4 hown1 hg1 hat1; have hk1 := own_len hown1; subst hk1)
                        have q4 : Below w.heap.size w w4 := below_grown_own (hbl3.alloc hsz3 _) (Ow.later HF3.out ((Below.refl _ _).alloc (Nat.le_refl _) _)) hg1 (by simp; omega)
                        have e1 : bl acj ++ [.bool true] = bl (acj ++ [true]) := by simp [bl]
                        have hl1 : (bl acj).length + 1 = (acj ++ [true]).length := by simp [bl_len]
                        have e2 : (bl (acj ++ [true])).length = (bl acj).length + 1 := by simp [bl_len]
                        have hO : Fl w4 w.heap.size (.slice A1 ((bl acj).length + 1) c1) (acj ++ [true]) := by
                          rw [e1] at hown1
                          unfold Fl Ow
                          rw [e2]
                          exact hown1
                        have HL1 := Lib.hid hl1
                        clear hown1 hg1 hat1 hl1 e1 e2
                        go_roundw
                        case rel =>
                          rw [HL1.out, HSN.out] at hO
                          exact ⟨j + 1, A1, c1, by rw [← HSN.out, ← HL1.out], by go_num, by omega, hO, q4⟩
                        case measure => simp [intOf]; omega
                      · obtain rfl : j = run := by omega
                        have HX2 := HX.out
                        clear HX HNM
                        go_wp2_with fail
                        go_roundw
                        case rel => exact ⟨k, acc ++ List.replicate j true, false, s', A3, c3, rfl, rfl, rfl, by simp; omega, by omega, by (repeat' split at hk) <;> (repeat' split) <;> simp at * <;> omega, hof.trans HX2, HF3.out, hbl3⟩
                        case measure => simp [lenV, tvK]; omega
                  | false =>
                    go_wp2_with fail
                    refine HCL.out.mono ?_
                    rintro e w2 ⟨rfl, hbl2⟩
                    have R1 : Fl w2 w.heap.size (.slice A acc.length c) acc ∧ Below w.heap.size w w2 := ⟨HFL.out.later hbl2, below_chain hbl hbl2⟩
                    clear hbl2 HCL
                    go_wp2_with fail
                    go_loopw [7, 12] (fun lv jv wr2 => ∃ (j : Nat) (A : Option Addr) (c : Nat), lv = .slice A (acc ++ List.replicate j false).length c ∧ jv = .int .u64 (j : Int) ∧ j ≤ run ∧ Fl wr2 w.heap.size (.slice A (acc ++ List.replicate j false).length c) (acc ++ List.replicate j false) ∧ Below w.heap.size w wr2) (fun _ jv _ => run - (intOf jv).toNat)
                    case atStart => exact ⟨0, A, c, by simp, rfl, by omega, by simpa using R1.1, R1.2⟩
                    case round =>
                      obtain ⟨j, A3, c3, rfl, rfl, hj, hf3, hbl3⟩ := hrel
                      clear R1
                      have hsz3 := hbl3.size
                      have HF3 := Lib.hid hf3
                      have hqj := wrap_u64 (n := (j : Int) + 1) (by omega) (by unfold U64; omega)
                      have hlen : (acc ++ List.replicate j false).length ≤ 256 := by simp; omega
                      clear hf3
                      by_cases hjr : j < run
                      · have hsnoc : (acc ++ List.replicate j false) ++ [false] = acc ++ List.replicate (j + 1) false := by rw [List.replicate_succ', List.append_assoc]
                        have HSN := Lib.hid hsnoc
                        clear hsnoc
                        generalize (acc ++ List.replicate j false) = acj at *
                        go_wp2_with (at_builtin; go_loud (refine wpList_append_sl _ rfl (.tmp 69) (.tmp 71) elemBool rfl (Ow.later HF3.out ((Below.refl _ _).alloc (Nat.le_refl _) _)) (Sl.new1 _ _ _ (by simp)) rfl rfl (by intro y hy; obtain rfl := List.mem_singleton.1 hy; rfl) (by simp [bl_len, maxLen]; omega) (by simp [bl_len]; omega) (by simp; omega) ?_); intro A1 k1 c1 w4 hown1 hg1 hat1; have hk1 := own_len hown1; subst hk1)
                        have q4 : Below w.heap.size w w4 := below_grown_own (hbl3.alloc hsz3 _) (Ow.later HF3.out ((Below.refl _ _).alloc (Nat.le_refl _) _)) hg1 (by simp; omega)
                        have e1 : bl acj ++ [.bool false] = bl (acj ++ [false]) := by simp [bl]
                        have hl1 : (bl acj).length + 1 = (acj ++ [false]).length := by simp [bl_len]
                        have e2 : (bl (acj ++ [false])).length = (bl acj).length + 1 := by simp [bl_len]
                        have hO : Fl w4 w.heap.size (.slice A1 ((bl acj).length + 1) c1) (acj ++ [false]) := by
                          rw [e1] at hown1
                          unfold Fl Ow
                          rw [e2]
                          exact hown1
                        have HL1 := Lib.hid hl1
                        clear hown1 hg1 hat1 hl1 e1 e2
                        go_roundw
                        case rel =>
                          rw [HL1.out, HSN.out] at hO
                          exact ⟨j + 1, A1, c1, by rw [← HSN.out, ← HL1.out], by go_num, by omega, hO, q4⟩
                        case measure => simp [intOf]; omega
                      · obtain rfl : j = run := by omega
                        have HX2 := HX.out
                        clear HX HNM
                        go_wp2_with fail
                        go_roundw
                        case rel => exact ⟨k, acc ++ List.replicate j false, true, s', A3, c3, rfl, rfl, rfl, by simp; omega, by omega, by (repeat' split at hk) <;> (repeat' split) <;> simp at * <;> omega, hof.trans HX2, HF3.out, hbl3⟩
                        case measure => simp [lenV, tvK]; omega
          · have HB : Hid (ofB l = none) := HCE.out _ (hof.trans (ofR_fault hgo (hbad her) her))
            have t0 : ((er : Int) != 0) = true := by rw [bne_iff_ne]; omega
            clear hbad hnum hof
            go_wp2_with fail
            refine HCL.out.mono ?_
            rintro e w2 ⟨rfl, hbl2⟩
            go_wp2_with fail
            go_ret2
            exact ⟨.inr ⟨HB.out, _, rfl⟩, below_chain hbl hbl2⟩
        · have hgi : ¬ (acc.length : Int) < (n : Int) := by omega
          have HB : Hid (ofB l = if rdEnd s 0 = 0 then some acc else none) := HCE.out _ (hof.trans (ofR_end hgo))
          clear hof HCE
          cases s with
          | nil =>
            have he : Hid ((⟨#[]⟩ : ByteArray) = st []) := st_empty
            go_wp2_with fail
            go_ret2
            exact ⟨.inl ⟨acc, _, by rw [HB.out]; rfl, rfl, HFL.out⟩, hbl⟩
          | cons b s =>
            go_wp2_with fail
            go_ret2
            exact ⟨.inr ⟨by rw [HB.out]; rfl, _, rfl⟩, hbl⟩
  · have HB : Hid (ofB l = none) := by unfold ofB; rw [hbad her]; rfl
    have t0 : ((er : Int) != 0) = true := by rw [bne_iff_ne]; omega
    clear hbad hnum
    go_enter Tryd.func19, Tryd.ntmps19
    go_wp2_with fail
    refine HC.out.mono ?_
    rintro e w1 ⟨rfl, hbl1⟩
    go_wp2_with fail
    go_ret2
    exact ⟨.inr ⟨HB.out, _, rfl⟩, hbl1⟩
end Go.Proofs.YtlhdeclimodfdaaDoor
