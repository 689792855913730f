/- The code of layer 9: space.Of. -/
import Derived.Test.YtlhdeclimodfdaaDoorSpaC
import Derived.Test.YtlhdeclimodfdaaDoorCodB
namespace Go.Proofs.YtlhdeclimodfdaaDoor
open Go Go.RowKit
set_option linter.unusedVariables false

/-! ### What Of makes of bytes -/
def ofR (n : Nat) : Nat → List Bool → Bool → List UInt8 × Nat → Option (List Bool × (List UInt8 × Nat))
  | 0, _, _, _ => none
  | k + 1, acc, t, s =>
    if acc.length < n then
      if (rdCount s.1 s.2 ((n - acc.length : Nat) : Int)).1 = 0 ∧ (0 < acc.length ∨ t = true) then none
      else ofR n k (acc ++ List.replicate (rdCount s.1 s.2 ((n - acc.length : Nat) : Int)).1 t) (!t) (rdCount s.1 s.2 ((n - acc.length : Nat) : Int)).2
    else some (acc, s)
def ofB (l : List UInt8) : Option (List Bool) :=
  if (rdCount l 0 256).1 = 0 then none
  else match ofR (rdCount l 0 256).1 ((rdCount l 0 256).1 + 2) [] false (rdCount l 0 256).2 with
    | none => none
    | some (acc, s) => if rdEnd s.1 s.2 = 0 then some acc else none
theorem ofR_none {n k : Nat} {acc : List Bool} {t : Bool} {s : List UInt8 × Nat} (h : acc.length < n) (h1 : (rdCount s.1 s.2 ((n - acc.length : Nat) : Int)).1 = 0) (h2 : 0 < acc.length ∨ t = true) : ofR n (k + 1) acc t s = none := by
  rw [ofR, if_pos h, if_pos ⟨h1, h2⟩]
theorem ofR_next {n k : Nat} {acc : List Bool} {t : Bool} {s : List UInt8 × Nat} (h : acc.length < n) (h1 : ¬ ((rdCount s.1 s.2 ((n - acc.length : Nat) : Int)).1 = 0 ∧ (0 < acc.length ∨ t = true))) :
    ofR n (k + 1) acc t s = ofR n k (acc ++ List.replicate (rdCount s.1 s.2 ((n - acc.length : Nat) : Int)).1 t) (!t) (rdCount s.1 s.2 ((n - acc.length : Nat) : Int)).2 := by
  rw [ofR, if_pos h, if_neg h1]
theorem ofR_end {n k : Nat} {acc : List Bool} {t : Bool} {s : List UInt8 × Nat} (h : ¬ acc.length < n) : ofR n (k + 1) acc t s = some (acc, s) := by
  rw [ofR, if_neg h]
theorem rdCount_le (l : List UInt8) (err : Nat) (m : Nat) (he : err ≤ 1000) : (rdCount l err (m : Int)).1 ≤ m ∧ (rdCount l err (m : Int)).2.1.length ≤ l.length ∧ (rdCount l err (m : Int)).2.2 ≤ 1000 := by
  unfold rdCount
  split
  · exact ⟨by simp, by simp, he⟩
  · split
    · rename_i er hg
      exact ⟨by simp, by simp, (rdErr_le hg).1⟩
    · split
      · exact ⟨by simp, by simp, by simp⟩
      · refine ⟨?_, ?_, by simp⟩
        · simp only; omega
        · simp
/-- The flags so far, the others free. -/
def spread (acc : List Bool) (n : Nat) : List Bool := acc ++ List.replicate (n - acc.length) false
theorem spread_len {acc : List Bool} {n : Nat} (h : acc.length ≤ n) : (spread acc n).length = n := by
  unfold spread; rw [List.length_append, List.length_replicate]; omega
theorem spread_one {acc : List Bool} {n : Nat} (h : acc.length < n) (t : Bool) : spread (acc ++ [t]) n = (spread acc n).set acc.length t := by
  unfold spread
  rw [List.length_append, List.length_singleton, show n - acc.length = (n - (acc.length + 1)) + 1 by omega, List.replicate_succ, List.set_append_right _ _ (Nat.le_refl _), Nat.sub_self]
  simp
theorem spread_at {acc : List Bool} {n : Nat} (h : acc.length < n) : (spread acc n).getD acc.length false = false := by
  unfold spread
  rw [List.getD_eq_getElem?_getD, List.getElem?_append_right (Nat.le_refl _), Nat.sub_self, List.getElem?_replicate]
  split <;> rfl
theorem spread_true {acc : List Bool} {n : Nat} (h : acc.length < n) : flipAt (spread acc n) acc.length = spread (acc ++ [true]) n := by
  rw [spread_one h, flipAt, spread_at h]; rfl
theorem spread_false {acc : List Bool} {n : Nat} (h : acc.length < n) : spread acc n = spread (acc ++ [false]) n := by
  have h1 := spread_at h
  rw [spread_one h]
  refine (List.ext_getElem? fun j => ?_)
  by_cases hj : j = acc.length
  · subst hj
    have hl : acc.length < (spread acc n).length := by rw [spread_len (by omega)]; exact h
    rw [List.getElem?_set_self hl]
    rw [List.getD_eq_getElem?_getD, List.getElem?_eq_getElem hl] at h1
    rw [List.getElem?_eq_getElem hl]
    simpa using h1
  · rw [List.getElem?_set_ne (fun e => hj e.symm)]
theorem spread_full {acc : List Bool} {n : Nat} (h : acc.length = n) : spread acc n = acc := by
  unfold spread; rw [h, Nat.sub_self]; simp

/-- A block of another type was written, and new ones made. -/
theorem Ob.beside {e : TypeId} {w w' : World} {B : Nat} {v : Value} {l : List UInt8} (h : Ob e w B v l) {g' : Nat} {t : TypeId} {cs : Array Value} (hb : Blk w g' t cs) (hne : e ≠ t) (hg : w.grownBy w' (some g')) : Ob e w' B v l := by
  have hn := own_ne h hb hne
  obtain ⟨h1, h2⟩ := h
  refine ⟨h1, ?_⟩
  rcases h2 with h2 | ⟨g, cap, cur, hv, hB, hh, r⟩
  · exact .inl h2
  · refine .inr ⟨g, cap, cur, hv, hB, ?_, r⟩
    exact (hg.block g (lt_of_block hh) (fun e => hn (by rw [hv]; simp [Value.ownBlock]; injection e))).trans hh
theorem Rd.beside {w w' : World} {g B : Nat} {l : List UInt8} {err : Nat} (h : Rd w g B l err) {g' : Nat} {t : TypeId} {cs : Array Value} (hb : Blk w g' t cs) (h1 : t ≠ 79) (h2 : 5 ≠ t) (hg : w.grownBy w' (some g')) : Rd w' g B l err := by
  obtain ⟨A, k, c, h3, h4⟩ := h
  exact ⟨A, k, c, h3.grown hg (by intro e; injection e with e; exact Blk.ne h3 hb (fun h => h1 h.symm) e.symm), h4.beside hb h2 hg⟩
theorem Sp.beside {w w' : World} {gs g B : Nat} {l : List Bool} {rl : List UInt8} {err : Nat} (h : Sp w gs l) (hr : Rd w g B rl err) (hg : w.grownBy w' (some g)) : Sp w' gs l := by
  obtain ⟨A, k, c, h3, h4⟩ := hr
  exact h.grown hg (by intro e; injection e with e; exact Blk.ne h3 h.1 (by decide) e)

def tvM : Value → Nat | .bool true => 0 | _ => 1

def OfPost (l : List UInt8) (w : World) (e : Ending) (w' : World) : Prop :=
  ((∃ m g, ofB l = some m ∧ e = .returned (.tuple #[.pointer (some ⟨g, 0, none⟩), .int .i64 0]) ∧ w.heap.size ≤ g ∧ Sp w' g m) ∨ (ofB l = none ∧ e = .returned (.tuple #[.pointer none, .int .i64 93]))) ∧ Below w.heap.size w w'

set_option maxHeartbeats 2000000 in
set_option maxRecDepth 100000 in
theorem spOf_any (S : Nat → Prop) (v0 : Value) (l : List UInt8) (w : World) (hl : l.length ≤ 1099511627776) (hr : Bs S w v0 l) :
    Calls Tryd.prog 17 #[v0] w (OfPost l w) := by
  have hbnd := rdCount_le l 0 256 (by omega)
  rw [show ((256 : Nat) : Int) = 256 from rfl] at hbnd
  obtain ⟨hn256, hrl0, her0⟩ := hbnd
  have HCE : Hid (∀ n, (rdCount l 0 256).1 = n → n ≠ 0 → ∀ x, ofR n (n + 2) [] false (rdCount l 0 256).2 = x → ofB l = match x with | none => none | some (acc, s) => if rdEnd s.1 s.2 = 0 then some acc else none) := by
    intro n hn h0 x hx
    unfold ofB
    rw [hn, if_neg h0, hx]
  go_enter Tryd.func17, Tryd.ntmps17
  go_wp2_with fail
  refine (read_any S v0 l w hl hr).mono ?_
  rintro e w1 ⟨gr, rfl, hgr, hr1, hbl1⟩
  go_wp2_with fail
  refine (count_any gr w.heap.size l 0 256 w1 hr1 hbl1.size hl (by omega) (by omega)).mono ?_
  rintro e w2 ⟨rfl, hr2, hg2⟩
  have q2 : Below w.heap.size w w2 := hbl1.trans (grown_below hg2 hgr hbl1.size)
  clear hr1 hg2
  by_cases hz : (rdCount l 0 256).1 = 0
  · rw [hz]
    have HB : Hid (ofB l = none) := by unfold ofB; rw [if_pos hz]; rfl
    clear HCE hbl1
    go_wp2_with fail
    refine (new_bad 0 w2 (by omega)).mono ?_
    rintro e w3 ⟨rfl, rfl⟩
    go_wp2_with fail
    go_ret2
    exact ⟨.inr ⟨HB.out, rfl⟩, q2⟩
  · have HCE' := HCE.out _ rfl hz
    clear HCE
    generalize hn : (rdCount l 0 256).1 = n at *
    generalize hs0 : (rdCount l 0 256).2 = s0 at *
    obtain ⟨l0, e0⟩ := s0
    simp only at hr2 hrl0 her0
    have HCE := Lib.hid HCE'
    clear HCE' hbl1 hn hs0
    go_wp2_with fail
    refine (new_ok n w2 (by omega) hn256).mono ?_
    rintro e w3 ⟨rfl, hs3, hbl3⟩
    have hr3 := hr2.later hbl3
    have q3 := q2.trans (hbl3.mono q2.size)
    have hgs : w.heap.size ≤ w2.heap.size := q2.size
    have R0 : Rd w3 gr w.heap.size l0 e0 ∧ Sp w3 w2.heap.size (spread [] n) ∧ Below w.heap.size w w3 := ⟨hr3, by unfold spread; simpa using hs3, q3⟩
    clear hr2 hr3 q3 q2 hbl3 hs3
    generalize w2.heap.size = gs at *
    go_wp2_with fail
    go_loopw [7, 8, 9] (fun iv tv _ wr => ∃ (k : Nat) (acc : List Bool) (t : Bool) (rl : List UInt8) (err : Nat), iv = .int .i64 (acc.length : Int) ∧ tv = .bool t ∧ acc.length ≤ n ∧ rl.length ≤ l.length ∧ err ≤ 1000 ∧ (n - acc.length) + (if acc.length = 0 ∧ t = false then 2 else 1) ≤ k ∧
        Hid (ofR n (n + 2) [] false (l0, e0) = ofR n k acc t (rl, err)) ∧ Rd wr gr w.heap.size rl err ∧ Sp wr gs (spread acc n) ∧ Below w.heap.size w wr) (fun iv tv _ _ => 2 * (n - (intOf iv).toNat) + tvM tv)
    case atStart => exact ⟨n + 2, [], false, l0, e0, rfl, rfl, by simp, hrl0, her0, by simp, rfl, R0⟩
    case round =>
      obtain ⟨k, acc, t, rl, err, rfl, rfl, hacc, hrl, herr, hk, hof, hrd, hsp, hbl⟩ := hrel
      clear R0 hrl0 her0
      have hsz := hbl.size
      have hc0 : wr.cell? ⟨gs, 0, none⟩ = some (.int .i64 (n : Int)) := (hsp.1.cell 0).trans (by unfold spC; rw [spread_len hacc]; rfl)
      have HSP := Lib.hid hsp
      have HRD := Lib.hid hrd
      clear hsp hrd
      obtain ⟨k, rfl⟩ : ∃ k', k = k' + 1 := ⟨k - 1, by split at hk <;> omega⟩
      by_cases hgo : acc.length < n
      · have hle := rdCount_le rl err (n - acc.length) herr
        have hcst : ((n - acc.length : Nat) : Int) = (n : Int) - (acc.length : Int) := by omega
        have HCT := Lib.hid hcst
        have HN := @ofR_none n k acc t (rl, err) hgo
        have HX := @ofR_next n k acc t (rl, err) hgo
        have hcnt := count_any gr w.heap.size rl err ((n - acc.length : Nat) : Int) wr HRD.out hsz (by omega) (by omega) (by omega)
        simp only at HN HX
        generalize rdCount rl err ((n - acc.length : Nat) : Int) = c at *
        obtain ⟨run, rl', err'⟩ := c
        simp only at HN HX hcnt hle
        rw [hcst] at hcnt
        obtain ⟨hrun, hrl2, herr2⟩ := hle
        have HC := Lib.hid hcnt
        have HN := Lib.hid HN
        have HX := Lib.hid HX
        clear hcst hcnt
        go_wp2_with fail
        refine HC.out.mono ?_
        rintro e w4 ⟨rfl, hr4, hg4⟩
        have R1 : Rd w4 gr w.heap.size rl' err' ∧ Sp w4 gs (spread acc n) ∧ Below w.heap.size w w4 := ⟨hr4, HSP.out.beside HRD.out hg4, hbl.trans (grown_below hg4 hgr hsz)⟩
        clear hr4 hg4 HSP HRD hsz hc0 hbl
        by_cases hc : run = 0 ∧ (0 < acc.length ∨ t = true)
        · have HB : Hid (ofB l = none) := HCE.out _ (hof.trans (HN.out hc.1 hc.2))
          obtain ⟨rfl, hc2⟩ := hc
          clear HN HX HC hof
          by_cases ha0 : 0 < acc.length
          · clear hc2
            go_wp2_with fail
            go_ret2
            exact ⟨.inr ⟨HB.out, rfl⟩, R1.2.2⟩
          · obtain rfl : t = true := hc2.resolve_left ha0
            obtain rfl : acc = [] := List.eq_nil_of_length_eq_zero (by omega)
            clear hc2
            go_wp2_with fail
            go_ret2
            exact ⟨.inr ⟨HB.out, rfl⟩, R1.2.2⟩
        · have hcond : Hid (¬ (run = 0 ∧ (0 < acc.length ∨ t = true))) := hc
          by_cases hr0 : run = 0
          · obtain ⟨ha, rfl⟩ : acc.length = 0 ∧ t = false := by
              refine ⟨by have := fun h => hc ⟨hr0, .inl h⟩; omega, ?_⟩
              cases t with
              | false => rfl
              | true => exact absurd ⟨hr0, .inr rfl⟩ hc
            subst hr0
            obtain rfl : acc = [] := List.eq_nil_of_length_eq_zero ha
            clear hc ha
            have HX2 := HX.out
            clear HX HN HC
            go_wp2_with fail
            go_loop [7, 46] (fun iv jv => iv = .int .i64 0 ∧ jv = .int .i64 0) (fun _ _ => 0)
            case atStart => exact ⟨rfl, rfl⟩
            case round =>
              obtain ⟨rfl, rfl⟩ := hrel
              go_wp2_with fail
              go_roundw
              case rel => exact ⟨k, [], true, rl', err', by simp, rfl, by simp, by omega, herr2, by simp at hk ⊢; omega, hof.trans (by simpa using HX2 hcond.out), R1⟩
              case measure => simp [intOf, tvM]
          · have t0 : ((run : Int) == 0) = false := by rw [beq_eq_false_iff_ne]; omega
            clear hc
            cases t with
            | true =>
              go_wp2_with fail
              go_loopw [7, 46] (fun iv jv wr2 => ∃ j : Nat, iv = .int .i64 ((acc.length + j : Nat) : Int) ∧ jv = .int .i64 (j : Int) ∧ j ≤ run ∧ Rd wr2 gr w.heap.size rl' err' ∧ Sp wr2 gs (spread (acc ++ List.replicate j true) n) ∧ Below w.heap.size w wr2) (fun _ jv _ => run - (intOf jv).toNat)
              case atStart => exact ⟨0, rfl, rfl, by omega, by simpa using R1⟩
              case round =>
                obtain ⟨j, rfl, rfl, hj, hrd2, hsp2, hbl2⟩ := hrel
                clear R1
                by_cases hjr : j < run
                · have hlj : (acc ++ List.replicate j true).length = acc.length + j := by simp
                  have hlt : (acc ++ List.replicate j true).length < n := by omega
                  have hst := spread_true hlt
                  rw [hlj, List.append_assoc, ← List.replicate_succ'] at hst
                  have HST := Lib.hid hst
                  have hk2 : acc.length + j < (spread (acc ++ List.replicate j true) n).length := by rw [spread_len (by omega)]; omega
                  have HSP2 := Lib.hid hsp2
                  have HRD2 := Lib.hid hrd2
                  have hsz2 := hbl2.size
                  clear hst hsp2 hrd2 hlj hlt
                  go_wp2_with fail
                  refine (turn_any gs _ (acc.length + j) _ HSP2.out hk2).mono ?_
                  rintro e w5 ⟨rfl, hs5, hg5, _⟩
                  rw [HST.out] at hs5
                  have hr5 := HRD2.out.beside HSP2.out.1 (by decide) (by decide) hg5
                  have q5 := hbl2.trans (grown_below hg5 hgs hsz2)
                  clear hg5
                  go_wp2_with fail
                  go_roundw
                  case rel => exact ⟨j + 1, by go_num, by go_num, by omega, hr5, hs5, q5⟩
                  case measure => simp [intOf]; omega
                · obtain rfl : j = run := by omega
                  have HX2 := HX.out
                  clear HX HN HC
                  go_wp2_with fail
                  go_roundw
                  case rel => exact ⟨k, acc ++ List.replicate j true, false, rl', err', by simp, rfl, by simp; omega, by omega, herr2, by (repeat' split at hk) <;> (repeat' split) <;> simp at * <;> omega, hof.trans (HX2 hcond.out), hrd2, hsp2, hbl2⟩
                  case measure => simp [intOf, tvM]; omega
            | false =>
              go_wp2_with fail
              go_loopw [7, 46] (fun iv jv wr2 => ∃ j : Nat, iv = .int .i64 ((acc.length + j : Nat) : Int) ∧ jv = .int .i64 (j : Int) ∧ j ≤ run ∧ Rd wr2 gr w.heap.size rl' err' ∧ Sp wr2 gs (spread (acc ++ List.replicate j false) n) ∧ Below w.heap.size w wr2) (fun _ jv _ => run - (intOf jv).toNat)
              case atStart => exact ⟨0, rfl, rfl, by omega, by simpa using R1⟩
              case round =>
                obtain ⟨j, rfl, rfl, hj, hrd2, hsp2, hbl2⟩ := hrel
                clear R1
                by_cases hjr : j < run
                · have hlj : (acc ++ List.replicate j false).length = acc.length + j := by simp
                  have hlt : (acc ++ List.replicate j false).length < n := by omega
                  have hst := spread_false hlt
                  rw [List.append_assoc, ← List.replicate_succ'] at hst
                  rw [hst] at hsp2
                  clear hst hlj hlt
                  go_wp2_with fail
                  go_roundw
                  case rel => exact ⟨j + 1, by go_num, by go_num, by omega, hrd2, hsp2, hbl2⟩
                  case measure => simp [intOf]; omega
                · obtain rfl : j = run := by omega
                  have HX2 := HX.out
                  clear HX HN HC
                  go_wp2_with fail
                  go_roundw
                  case rel => exact ⟨k, acc ++ List.replicate j false, true, rl', err', by simp, rfl, by simp; omega, by omega, herr2, by (repeat' split at hk) <;> (repeat' split) <;> simp at * <;> omega, hof.trans (HX2 hcond.out), hrd2, hsp2, hbl2⟩
                  case measure => simp [intOf, tvM]; omega
      · have hfull : acc.length = n := by omega
        have HB : Hid (ofB l = if rdEnd rl err = 0 then some acc else none) := HCE.out _ (hof.trans (ofR_end (by omega)))
        have hsf := spread_full hfull
        clear hof HCE
        go_wp2_with fail
        refine (end_rd gr w.heap.size rl err wr HRD.out (by omega)).mono ?_
        rintro e w4 ⟨rfl, rfl⟩
        generalize rdEnd rl err = er at *
        by_cases he : er = 0
        · subst he
          go_wp2_with fail
          go_ret2
          exact ⟨.inl ⟨acc, gs, by rw [HB.out]; rfl, rfl, hgs, hsf ▸ HSP.out⟩, hbl⟩
        · have t0 : ((er : Int) != 0) = true := by rw [bne_iff_ne]; omega
          go_wp2_with fail
          go_ret2
          exact ⟨.inr ⟨by rw [HB.out, if_neg he], rfl⟩, hbl⟩
end Go.Proofs.YtlhdeclimodfdaaDoor
