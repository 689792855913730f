/- What the proof of TreeOpens needs, part 3. -/
import Derived.Test.YthbhkdhljlganaaGreatDoorTreeOpensJ2
import Derived.BigQuiet
import Derived.Deep.QuietTactic
import Derived.RegionTactic
import Derived.Deep.RegionLaw
import Derived.Maps.OwnSet
import Derived.Maps.RangeWalk
import Derived.StillTailTactics
import Derived.Deep.RegionWith

namespace Go.Proofs.YthbhkdhljlganaaGreatDoor
open Go
set_option linter.unusedVariables false

theorem cmpB_trans : ∀ a b c : List UInt8, cmpB a b < 0 → cmpB b c < 0 → cmpB a c < 0
  | [], [], c, h, _ => by simp [cmpB] at h
  | [], b :: bs, [], _, h => by simp [cmpB] at h
  | [], b :: bs, c :: cs, _, _ => by simp [cmpB]
  | a :: as', [], c, h, _ => by simp [cmpB] at h
  | a :: as', b :: bs, [], _, h => by simp [cmpB] at h
  | a :: as', b :: bs, c :: cs, h1, h2 => by
    have ih := cmpB_trans as' bs cs
    unfold cmpB at h1 h2 ⊢
    split at h1
    · split at h2
      · rw [if_pos (by omega)]; decide
      · split at h2
        · omega
        · have e : b.toNat = c.toNat := by omega
          rw [if_pos (by omega)]; decide
    · split at h1
      · omega
      · split at h2
        · rw [if_pos (by omega)]; decide
        · split at h2
          · omega
          · rw [if_neg (by omega), if_neg (by omega)]
            exact ih h1 h2
/-- The keys rise. -/
def RisesP (cs : List Cel) : Prop := ∀ i, (h : i + 1 < cs.length) → Op.bytesLess (cs[i]'(by omega)).1 cs[i + 1].1 = true
theorem rises_lt {cs : List Cel} (h : RisesP cs) : ∀ (d i : Nat), (hd : i + d + 1 < cs.length) → cmpB (cs[i]'(by omega)).1 (cs[i + d + 1]'hd).1 < 0
  | 0, i, hd => by
    have := h i (by omega)
    rw [cmpB_less, decide_eq_true_eq] at this
    exact this
  | d + 1, i, hd => by
    have h1 := rises_lt h d i (by omega)
    have h2 := h (i + d + 1) (by omega)
    rw [cmpB_less, decide_eq_true_eq] at h2
    exact cmpB_trans _ _ _ h1 h2
theorem rises_lt' {cs : List Cel} (h : RisesP cs) {i j : Nat} (hij : i < j) (hj : j < cs.length) : cmpB (cs[i]'(by omega)).1 cs[j].1 < 0 := by
  obtain ⟨d, rfl⟩ : ∃ d, j = i + d + 1 := ⟨j - i - 1, by omega⟩
  exact rises_lt h d i hj
/-- How many cells stand ahead of a key. -/
def findK (cs : List Cel) (k : List UInt8) : Nat := (cs.takeWhile fun c => Op.bytesLess c.1 k).length
theorem findK_le (cs : List Cel) (k : List UInt8) : findK cs k ≤ cs.length := by
  unfold findK
  have := List.takeWhile_append_dropWhile (p := fun c : Cel => Op.bytesLess c.1 k) (l := cs)
  have h := congrArg List.length this
  rw [List.length_append] at h
  omega
theorem findK_lt : ∀ {cs : List Cel} {k : List UInt8} {i : Nat}, (h : i < findK cs k) → Op.bytesLess (cs[i]'(by have := findK_le cs k; omega)).1 k = true
  | [], k, i, h => by simp [findK] at h
  | c :: cs, k, i, h => by
    unfold findK at h
    rw [List.takeWhile_cons] at h
    split at h
    · rename_i hc
      rcases i with _ | i
      · exact hc
      · have := findK_lt (cs := cs) (k := k) (i := i) (by unfold findK; simpa using h)
        simpa using this
    · simp at h
theorem findK_at : ∀ {cs : List Cel} {k : List UInt8}, (h : findK cs k < cs.length) → Op.bytesLess cs[findK cs k].1 k = false
  | [], k, h => by simp at h
  | c :: cs, k, h => by
    by_cases hc : Op.bytesLess c.1 k = true
    · have e : findK (c :: cs) k = findK cs k + 1 := by unfold findK; rw [List.takeWhile_cons, if_pos hc]; rfl
      have h' : findK cs k < cs.length := by rw [e] at h; simpa using h
      have := findK_at h'
      simp only [e, List.getElem_cons_succ]
      exact this
    · have e : findK (c :: cs) k = 0 := by unfold findK; rw [List.takeWhile_cons, if_neg hc]; rfl
      simp only [e, List.getElem_cons_zero]
      simpa using hc
/-- Among rising cells: from there on no key is ahead. -/
theorem findK_iff {cs : List Cel} (hr : RisesP cs) (k : List UInt8) {i : Nat} (hi : i < cs.length) : (!Op.bytesLess cs[i].1 k) = decide (findK cs k ≤ i) := by
  rcases Nat.lt_or_ge i (findK cs k) with h | h
  · rw [findK_lt h]
    simp; omega
  · have hK : findK cs k < cs.length := by omega
    have h0 := findK_at hK
    have hb : Op.bytesLess cs[i].1 k = false := by
      rcases Nat.lt_or_ge (findK cs k) i with hl | hl
      · rw [cmpB_less, decide_eq_false_iff_not] at h0 ⊢
        have h1 := rises_lt' hr hl hi
        intro h2
        exact h0 (cmpB_trans _ _ _ h1 h2)
      · obtain rfl : i = findK cs k := by omega
        exact h0
    rw [hb]
    simp [h]
/-- Whether a key is there. -/
def isK (cs : List Cel) (k : List UInt8) : Bool := match cs[findK cs k]? with
  | some c => c.1 == k
  | none => false
end Go.Proofs.YthbhkdhljlganaaGreatDoor

namespace Go.Proofs.YthbhkdhljlganaaGreatDoor
open Go Go.RowKit
set_option linter.unusedVariables false

set_option maxHeartbeats 1000000 in
theorem pfind1_any (bp bk : Nat) (S : Nat → Prop) (leaf : Bool) (next : Int) (v0 : Value) (cs : List Cel) (key : List UInt8) (i : Nat) (w : World) (hp : Blk w bp 36 #[.bool leaf, .int .i64 next, v0]) (hk : Blk w bk 9 #[.string (st key)]) (hr : Cs S w v0 cs) (hi : i < cs.length) (hl : cs.length ≤ 1000000) :
    Calls Tryz.prog 118 (#[.int .i64 (i : Int)] ++ #[.pointer (some ⟨bp, 0, none⟩), .pointer (some ⟨bk, 0, none⟩)]) w fun e w' => e = .returned (.bool (!Op.bytesLess cs[i].1 key)) ∧ ∃ m, w' = w.drewN m := by
  obtain ⟨A, c, rfl, hlc, hcm, _, hA⟩ := hr.at
  obtain ⟨b, o, rfl, _, hc⟩ := hA (by omega)
  have c0 := (hc i hi).1
  have p2 : w.cell? ⟨bp, 2, none⟩ = some (.slice (some ⟨b, o, none⟩) cs.length c) := hp.cell 2
  have k0 : w.cell? ⟨bk, 0, none⟩ = some (.string (st key)) := hk.cell 0
  generalize cs[i] = x at *
  clear hA hc hp hk hr
  show Calls _ _ #[.int .i64 (i : Int), .pointer (some ⟨bp, 0, none⟩), .pointer (some ⟨bk, 0, none⟩)] _ _
  go_enter Tryz.func118, Tryz.ntmps118
  go_wp2_with fail
  go_quiet (fail)
  go_wp2_with fail
  go_ret
  exact ⟨rfl, _, rfl⟩

set_option maxHeartbeats 2000000 in
set_option maxRecDepth 100000 in
theorem pfind_any (S : Nat → Prop) (leaf : Bool) (next : Int) (v0 : Value) (cs : List Cel) (key : List UInt8) (w : World) (hl : cs.length ≤ 1000000) (hr : Cs S w v0 cs) (hri : RisesP cs) :
    Calls Tryz.prog 71 #[.agg #[.bool leaf, .int .i64 next, v0], .string (st key)] w fun e w' => e = .returned (.tuple #[.int .i64 (findK cs key : Int), .bool (isK cs key)]) ∧ Below w.heap.size w w' := by
  have HR := Lib.hid hr.lt
  have hlt := hr.lt
  obtain ⟨A, c, rfl, hlc, hcm, hA0, hA⟩ := hlt.at
  have HA := Lib.hid hA
  have b1 : Blk ((w.alloc (.cells #[.bool leaf, .int .i64 next, .slice A cs.length c] 36)).alloc (.cells #[.string (st key)] 9)) w.heap.size 36 #[.bool leaf, .int .i64 next, .slice A cs.length c] := (Blk.new _ _ _).alloc _
  have b2 : Blk ((w.alloc (.cells #[.bool leaf, .int .i64 next, .slice A cs.length c] 36)).alloc (.cells #[.string (st key)] 9)) (w.heap.size + 1) 9 #[.string (st key)] := Blk.new1 _ _ _ _
  have q0 : Below w.heap.size w ((w.alloc (.cells #[.bool leaf, .int .i64 next, .slice A cs.length c] 36)).alloc (.cells #[.string (st key)] 9)) := ((Below.refl _ _).alloc (Nat.le_refl _) _).alloc (by simp) _
  have hmf := run_makeFunc Tryz.prog
  have hK := findK_le cs key
  have HI := Lib.hid (fun i (h : i < cs.length) => findK_iff hri key h)
  clear hA hr hlt hri
  go_enter Tryz.func71, Tryz.ntmps71
  go_wp2_with fail
  generalize hW : ((w.alloc (.cells #[.bool leaf, .int .i64 next, .slice A cs.length c] 36)).alloc (.cells #[.string (st key)] 9)) = W at *
  clear hW
  have HRW := Lib.hid (HR.out.up q0)
  refine (psearch_any 118 #[.pointer (some ⟨w.heap.size, 0, none⟩), .pointer (some ⟨w.heap.size + 1, 0, none⟩)] cs.length (findK cs key) W hl hK (fun args w => by rfl) (fun i m hi => ?_)).mono ?_
  · have h := pfind1_any w.heap.size (w.heap.size + 1) (fun b => b < W.heap.size) leaf next _ cs key i (W.drewN m) b1 b2 HRW.out hi hl
    rw [HI.out i hi] at h
    refine h.mono ?_
    rintro e w' ⟨rfl, m', rfl⟩
    exact ⟨rfl, _, World.drewN_drewN _ _ _⟩
  rintro e w1 ⟨rfl, m, rfl⟩
  have d2 : W.cell? ⟨w.heap.size, 2, none⟩ = some (.slice A cs.length c) := b1.cell 2
  have d3 : W.cell? ⟨w.heap.size + 1, 0, none⟩ = some (.string (st key)) := b2.cell 0
  have HIS : Hid (isK cs key = match cs[findK cs key]? with | some c => c.1 == key | none => false) := rfl
  generalize hKe : findK cs key = K at *
  have HKE := Lib.hid hKe
  clear hKe
  rcases Nat.lt_or_ge K cs.length with hlt | hge
  · obtain ⟨b, o, rfl, hbs, hc⟩ := HA.out (by omega)
    have c0 : W.cell? ⟨b, o + K * 2, none⟩ = some (.string (st cs[K].1)) := (q0.cell (p := ⟨b, o + K * 2, none⟩) hbs).trans (hc K hlt).1
    have HE : Hid (isK cs key = (cs[K].1 == key)) := by rw [Hid, HIS.out, List.getElem?_eq_getElem hlt]
    generalize cs[K].1 = kk at *
    clear hc b1 b2
    go_wp2_with fail
    go_quiet (fail)
    go_wp2_with fail
    go_ret2
    rw [HE.out, HKE.out]
    exact ⟨by simp, below_drewN (below_drewN q0 _) _⟩
  · obtain rfl : K = cs.length := by omega
    have HE : Hid (isK cs key = false) := by rw [Hid, HIS.out, List.getElem?_eq_none (Nat.le_refl _)]
    clear b1 b2
    go_wp2_with fail
    go_quiet (fail)
    go_wp2_with fail
    go_ret2
    rw [HE.out, HKE.out]
    exact ⟨by simp, below_drewN (below_drewN q0 _) _⟩
end Go.Proofs.YthbhkdhljlganaaGreatDoor

namespace Go.Proofs.YthbhkdhljlganaaGreatDoor
open Go Go.RowKit
set_option linter.unusedVariables false

/-- Block b is one of bytes, from B on. -/
def UbS (w : World) (B b : Nat) : Prop := B ≤ b ∧ ∃ cs fz, w.heap[b]? = some (.cells cs 5 fz)
/-- The slice value v reads as l, in blocks of bytes from B on. -/
def Ub (w : World) (B : Nat) (v : Value) (l : List UInt8) : Prop := Bs (UbS w B) w v l
theorem Ub.of_own {w : World} {B : Nat} {v : Value} {l : List UInt8} (h : Ob 5 w B v l) : Ub w B v l := by
  have hs := h.bs
  rcases h.2 with ⟨rfl, hn⟩ | ⟨g, cap, cur, rfl, hB, hh, _⟩
  · obtain ⟨h1, A, c, h2, h3, h4, h5, h6⟩ := hs
    exact ⟨h1, A, c, h2, h3, h4, h5, fun hl => by omega⟩
  · obtain ⟨h1, A, c, h2, h3, h4, h5, h6⟩ := hs
    refine ⟨h1, A, c, h2, h3, h4, h5, fun hl => ?_⟩
    obtain ⟨b, o, hA, _, hc⟩ := h6 hl
    injection h2 with hA2
    rw [hA] at hA2
    injection hA2 with hA2
    injection hA2 with hb
    subst hb
    exact ⟨g, o, hA, ⟨hB, _, _, hh⟩, hc⟩
theorem Ub.bs {w : World} {B : Nat} {v : Value} {l : List UInt8} (h : Ub w B v l) : Bs (fun _ => True) w v l := Sl.more h fun _ _ => trivial
theorem Ub.len {w : World} {B : Nat} {A : Option Addr} {k c : Nat} {l : List UInt8} (h : Ub w B (.slice A k c) l) : k = l.length := by
  obtain ⟨_, A', c', hv, _⟩ := h
  injection hv
theorem Ub.keep {w w' : World} {B : Nat} {v : Value} {l : List UInt8} (h : Ub w B v l) (hk : ∀ b, UbS w B b → w'.heap[b]? = w.heap[b]?) : Ub w' B v l := by
  obtain ⟨h1, A, c, h2, h3, h4, h5, h6⟩ := h
  refine ⟨h1, A, c, h2, h3, h4, h5, fun hl => ?_⟩
  obtain ⟨b, o, hA, hs, hc⟩ := h6 hl
  have hb := hk b hs
  obtain ⟨hB, cs, fz, hh⟩ := hs
  refine ⟨b, o, hA, ⟨hB, cs, fz, hb.trans hh⟩, fun j u hu => ?_⟩
  rw [World.cell?_of_block (a := ⟨b, o + j, none⟩) hb]
  exact hc j u hu
theorem Ub.later {w w' : World} {B : Nat} {v : Value} {l : List UInt8} (h : Ub w B v l) (hb : Below w.heap.size w w') : Ub w' B v l :=
  h.keep fun b ⟨_, cs, fz, hh⟩ => hb.block b (lt_of_block hh)
theorem Ub.lower {w : World} {B B' : Nat} {v : Value} {l : List UInt8} (h : Ub w B v l) (hB : B' ≤ B) : Ub w B' v l := Sl.more h fun b ⟨h1, h2⟩ => ⟨Nat.le_trans hB h1, h2⟩
/-- A block of another type is written, and new ones made. -/
theorem Ub.beside {w w' : World} {B : Nat} {v : Value} {l : List UInt8} (h : Ub w B v l) {g : Nat} {t : TypeId} {cs : Array Value} (hb : Blk w g t cs) (hne : 5 ≠ t) (hg : w.grownBy w' (some g)) : Ub w' B v l :=
  h.keep fun b ⟨_, cs', fz, hh⟩ => hg.block b (lt_of_block hh) (fun e => by
    injection e with e
    subst e
    unfold Blk at hb
    rw [hh] at hb
    injection hb with hb
    injection hb with _ hb
    exact hne hb)
end Go.Proofs.YthbhkdhljlganaaGreatDoor

namespace Go.Proofs.YthbhkdhljlganaaGreatDoor
open Go Go.RowKit
set_option linter.unusedVariables false

/-- A reader: what hasn't been taken yet, what went wrong first. -/
def Rd (w : World) (g B : Nat) (l : List UInt8) (err : Nat) : Prop := ∃ A k c, Blk w g 210 #[.slice A k c, .int .i64 (err : Int)] ∧ Ub w B (.slice A k c) l
theorem Rd.later {w w' : World} {g B : Nat} {l : List UInt8} {err : Nat} (h : Rd w g B l err) (hb : Below w.heap.size w w') : Rd w' g B l err := by
  obtain ⟨A, k, c, h1, h2⟩ := h
  exact ⟨A, k, c, h1.later hb, h2.later hb⟩
theorem Rd.lt {w : World} {g B : Nat} {l : List UInt8} {err : Nat} (h : Rd w g B l err) : g < w.heap.size := by
  obtain ⟨A, k, c, h1, h2⟩ := h
  exact h1.lt
/-- A block of another type is written. -/
theorem Rd.far {w : World} {g B : Nat} {l : List UInt8} {err : Nat} (h : Rd w g B l err) {g' : Nat} {t : TypeId} {cs : Array Value} (hb : Blk w g' t cs) (h1 : t ≠ 210) (h2 : 5 ≠ t) (i : Nat) (u : Value) : Rd (w.setCell ⟨g', i, none⟩ u) g B l err := by
  obtain ⟨A, k, c, h3, h4⟩ := h
  exact ⟨A, k, c, h3.far (p := ⟨g', i, none⟩) (fun e => Blk.ne h3 hb (fun h => h1 h.symm) e) _, h4.beside hb h2 (grown_put _ _ _ _)⟩

set_option maxHeartbeats 1000000 in
theorem read_any (S : Nat → Prop) (v0 : Value) (l : List UInt8) (w : World) (hl : l.length ≤ 1099511627776) (hr : Bs S w v0 l) :
    Calls Tryz.prog 76 #[v0] w fun e w' => ∃ g, e = .returned (.pointer (some ⟨g, 0, none⟩)) ∧ w.heap.size ≤ g ∧ Rd w' g w.heap.size l 0 ∧ Below w.heap.size w w' := by
  have HR := Lib.hid hr
  obtain ⟨A, c, rfl, hlc, hcm, hA0, hA⟩ := hr.at
  clear hA hr hA0
  go_enter Tryz.func76, Tryz.ntmps76
  go_wp2_with (at_builtin; (refine wpList_append_bs _ rfl (.tmp 3) (.tmp 4) elemU8 rfl (Ob.made _ _ w.heap.size (Nat.le_refl _) (by simp)) (Sl.alloc1 HR.out _) rfl rfl (by simp; omega) (by simp) ?_); intro A1 k1 c1 w1 hown1 hg1 hat1)
  have hbl1 : Below w.heap.size w w1 := below_grown_own ((Below.refl _ _).alloc (Nat.le_refl _) _) (Ob.made _ _ w.heap.size (Nat.le_refl _) (by simp)) hg1 (by simp)
  have hs1 := hbl1.size
  go_ret
  refine ⟨w1.heap.size, rfl, hs1, ⟨A1, k1, c1, Blk.new _ _ _, ?_⟩, hbl1.alloc hs1 _⟩
  exact (Ub.of_own (by simpa using hown1)).later ((Below.refl _ _).alloc (Nat.le_refl _) _)

set_option maxHeartbeats 400000 in
theorem fail_any (g B : Nat) (l : List UInt8) (err e0 : Nat) (w : World) (hr : Rd w g B l err) (he : e0 ≤ 1000) (he2 : err ≤ 1000) :
    Calls Tryz.prog 130 #[.pointer (some ⟨g, 0, none⟩), .int .i64 e0] w fun e w' => e = .returned (.bool false) ∧ Rd w' g B l (if err = 0 then e0 else err) ∧ w.grownBy w' (some g) := by
  have HR := Lib.hid hr
  obtain ⟨A, k, c, hb, hown⟩ := hr
  have d1 : w.cell? ⟨g, 1, none⟩ = some (.int .i64 (err : Int)) := hb.cell 1
  have f1 := hb.free 1
  by_cases h0 : err = 0
  · subst h0
    go_enter Tryz.func130, Tryz.ntmps130
    go_wp2_with fail
    go_ret
    exact ⟨rfl, ⟨A, k, c, hb.put 1 _, hown.beside hb (by decide) (grown_put _ _ _ _)⟩, grown_put _ _ _ _⟩
  · have t0 : ((err : Int) == 0) = false := by rw [beq_eq_false_iff_ne]; omega
    go_enter Tryz.func130, Tryz.ntmps130
    go_wp2_with fail
    go_ret
    exact ⟨rfl, HR.out, World.grownBy.refl _ _⟩

def rdErr (e : Nat) : Nat := if e = 10 then 30 else e
theorem getV_errs : ∀ (l : List UInt8) (i v er : Nat), getV i v l = .error er → er = 10 ∨ er = 12
  | [], i, v, er, h => by rw [getV] at h; cases h; exact .inl rfl
  | b :: l, i, v, er, h => by
    rw [getV] at h
    split at h
    · cases h; exact .inr rfl
    · split at h
      · cases h
      · exact getV_errs l _ _ er h
set_option maxHeartbeats 1000000 in
set_option maxRecDepth 100000 in
theorem rtake_old (g B : Nat) (l : List UInt8) (err : Nat) (w : World) (hr : Rd w g B l err) (h0 : err ≠ 0) :
    Calls Tryz.prog 121 #[.pointer (some ⟨g, 0, none⟩)] w fun e w' => e = .returned (.tuple #[.int .u64 0, .slice none 0 0, .bool false]) ∧ w = w' := by
  obtain ⟨A, k, c, hb, hown⟩ := hr
  have d1 : w.cell? ⟨g, 1, none⟩ = some (.int .i64 (err : Int)) := hb.cell 1
  have t0 : ((err : Int) != 0) = true := by rw [bne_iff_ne]; omega
  clear hb hown
  go_enter Tryz.func121, Tryz.ntmps121
  go_wp2_with fail
  go_ret3
  exact ⟨rfl, rfl⟩
set_option maxHeartbeats 1000000 in
set_option maxRecDepth 100000 in
theorem rtake_ok (g B : Nat) (l : List UInt8) (x n : Nat) (w : World) (hr : Rd w g B l 0) (hl : l.length ≤ 1099511627776) (hg : getVarB l = .ok (x, n)) :
    Calls Tryz.prog 121 #[.pointer (some ⟨g, 0, none⟩)] w fun e w' => ∃ A k c, e = .returned (.tuple #[.int .u64 x, .slice A k c, .bool true]) ∧ Ob 5 w' w.heap.size (.slice A k c) (l.drop n) ∧ Below w.heap.size w w' := by
  obtain ⟨A, k, c, hb, hown⟩ := hr
  have d0 : w.cell? ⟨g, 0, none⟩ = some (.slice A k c) := hb.cell 0
  have d1 : w.cell? ⟨g, 1, none⟩ = some (.int .i64 0) := hb.cell 1
  have HO := Lib.hid hown
  clear hb hown
  go_enter Tryz.func121, Tryz.ntmps121
  go_wp2_with fail
  refine (getVar_any _ _ l w hl HO.out.bs).mono ?_
  rintro e w1 ⟨hok, _⟩
  obtain ⟨A1, k1, c1, rfl, hown1, hbl1⟩ := hok x n hg
  clear hok
  go_wp2_with fail
  go_ret3
  exact ⟨A1, k1, c1, rfl, hown1, hbl1⟩
set_option maxHeartbeats 1000000 in
set_option maxRecDepth 100000 in
theorem rtake_err (g B : Nat) (l : List UInt8) (er : Nat) (w : World) (hr : Rd w g B l 0) (hl : l.length ≤ 1099511627776) (hg : getVarB l = .error er) :
    Calls Tryz.prog 121 #[.pointer (some ⟨g, 0, none⟩)] w fun e w' => e = .returned (.tuple #[.int .u64 0, .slice none 0 0, .bool false]) ∧ Rd w' g B l (rdErr er) ∧ w.grownBy w' (some g) := by
  have HR := Lib.hid hr
  obtain ⟨A, k, c, hb, hown⟩ := hr
  have d0 : w.cell? ⟨g, 0, none⟩ = some (.slice A k c) := hb.cell 0
  have d1 : w.cell? ⟨g, 1, none⟩ = some (.int .i64 0) := hb.cell 1
  have HO := Lib.hid hown
  have hcase := getV_errs l 0 0 er hg
  clear hb hown
  rcases hcase with rfl | rfl
  · go_enter Tryz.func121, Tryz.ntmps121
    go_wp2_with fail
    refine (getVar_any _ _ l w hl HO.out.bs).mono ?_
    rintro e w1 ⟨_, herr⟩
    obtain ⟨rfl, hbl1⟩ := herr _ hg
    have HR1 := Lib.hid (HR.out.later hbl1)
    clear herr
    go_wp2_with fail
    refine (fail_any g B l 0 30 w1 HR1.out (by omega) (by omega)).mono ?_
    rintro e w2 ⟨rfl, hr2, hg2⟩
    go_wp2_with fail
    go_ret3
    exact ⟨rfl, hr2, (below_grownBy hbl1 _).trans hg2⟩
  · go_enter Tryz.func121, Tryz.ntmps121
    go_wp2_with fail
    refine (getVar_any _ _ l w hl HO.out.bs).mono ?_
    rintro e w1 ⟨_, herr⟩
    obtain ⟨rfl, hbl1⟩ := herr _ hg
    have HR1 := Lib.hid (HR.out.later hbl1)
    clear herr
    go_wp2_with fail
    refine (fail_any g B l 0 12 w1 HR1.out (by omega) (by omega)).mono ?_
    rintro e w2 ⟨rfl, hr2, hg2⟩
    go_wp2_with fail
    go_ret3
    exact ⟨rfl, hr2, (below_grownBy hbl1 _).trans hg2⟩

/-- What Count takes: the number, the rest, what went wrong. -/
def rdCount (l : List UInt8) (err : Nat) (most : Int) : Nat × List UInt8 × Nat :=
  if err ≠ 0 then (0, l, err) else match getVarB l with
    | .error er => (0, l, rdErr er)
    | .ok (x, n) => if most < (x : Int) then (0, l, 32) else (x, l.drop n, 0)
theorem rdErr_le {l : List UInt8} {er : Nat} (h : getVarB l = .error er) : rdErr er ≤ 1000 ∧ rdErr er ≠ 0 := by
  rcases getV_errs l 0 0 er h with rfl | rfl <;> decide

/-- The function value 'r.take'. -/
def takeFn (g : Nat) : Value := .func (Fn.func 121) #[.pointer (some ⟨g, 0, none⟩)] #[]
set_option maxHeartbeats 1000000 in
set_option maxRecDepth 100000 in
theorem below_ok (g B : Nat) (l : List UInt8) (x n : Nat) (most : Int) (w : World) (hr : Rd w g B l 0) (hl : l.length ≤ 1099511627776) (hg : getVarB l = .ok (x, n)) (hm : most ≤ 9223372036854775807) (hx : (x : Int) ≤ most) :
    Calls Tryz.prog 122 #[.pointer (some ⟨g, 0, none⟩), takeFn g, .int .i64 most] w fun e w' => ∃ A k c, e = .returned (.tuple #[.int .i64 x, .slice A k c, .bool true]) ∧ Ob 5 w' w.heap.size (.slice A k c) (l.drop n) ∧ Below w.heap.size w w' := by
  obtain ⟨m, rfl⟩ : ∃ m : Nat, most = (m : Int) := ⟨most.toNat, by omega⟩
  have hxm : x ≤ m := by omega
  unfold takeFn
  have HT := Lib.hid (rtake_ok g B l x n w hr hl hg)
  clear hr hg
  go_enter Tryz.func122, Tryz.ntmps122
  go_wp2_with fail
  refine HT.out.mono ?_
  rintro e w1 ⟨A1, k1, c1, rfl, hown1, hbl1⟩
  have t0 : decide (m < x) = false := by rw [decide_eq_false_iff_not]; omega
  go_wp2_with fail
  go_ret3
  exact ⟨A1, k1, c1, rfl, hown1, hbl1⟩
set_option maxHeartbeats 1000000 in
set_option maxRecDepth 100000 in
theorem below_big (g B : Nat) (l : List UInt8) (x n : Nat) (most : Int) (w : World) (hr : Rd w g B l 0) (hl : l.length ≤ 1099511627776) (hg : getVarB l = .ok (x, n)) (hm : most ≤ 9223372036854775807) (hm2 : -9223372036854775808 ≤ most) (hx : most < (x : Int)) :
    Calls Tryz.prog 122 #[.pointer (some ⟨g, 0, none⟩), takeFn g, .int .i64 most] w fun e w' => e = .returned (.tuple #[.int .i64 0, .slice none 0 0, .bool false]) ∧ Rd w' g B l 32 ∧ w.grownBy w' (some g) := by
  unfold takeFn
  have HT := Lib.hid (rtake_ok g B l x n w hr hl hg)
  have HR := Lib.hid hr
  have hx64 := (getVarB_bound hg).1
  clear hr hg
  by_cases h0 : most < 0
  · go_enter Tryz.func122, Tryz.ntmps122
    go_wp2_with fail
    refine HT.out.mono ?_
    rintro e w1 ⟨A1, k1, c1, rfl, hown1, hbl1⟩
    have HR1 := Lib.hid (HR.out.later hbl1)
    go_wp2_with fail
    refine (fail_any g B l 0 32 w1 HR1.out (by omega) (by omega)).mono ?_
    rintro e w2 ⟨rfl, hr2, hg2⟩
    go_wp2_with fail
    go_ret3
    exact ⟨rfl, hr2, (below_grownBy hbl1 _).trans hg2⟩
  · obtain ⟨m, rfl⟩ : ∃ m : Nat, most = (m : Int) := ⟨most.toNat, by omega⟩
    have hxm : m < x := by omega
    go_enter Tryz.func122, Tryz.ntmps122
    go_wp2_with fail
    refine HT.out.mono ?_
    rintro e w1 ⟨A1, k1, c1, rfl, hown1, hbl1⟩
    have t0 : decide (m < x) = true := by rw [decide_eq_true_eq]; omega
    have HR1 := Lib.hid (HR.out.later hbl1)
    go_wp2_with fail
    refine (fail_any g B l 0 32 w1 HR1.out (by omega) (by omega)).mono ?_
    rintro e w2 ⟨rfl, hr2, hg2⟩
    go_wp2_with fail
    go_ret3
    exact ⟨rfl, hr2, (below_grownBy hbl1 _).trans hg2⟩
set_option maxHeartbeats 1000000 in
set_option maxRecDepth 100000 in
theorem below_no (g B : Nat) (l : List UInt8) (most : Int) (w : World) (err err' : Nat)
    (ht : Calls Tryz.prog 121 #[.pointer (some ⟨g, 0, none⟩)] w fun e w' => e = .returned (.tuple #[.int .u64 0, .slice none 0 0, .bool false]) ∧ Rd w' g B l err' ∧ w.grownBy w' (some g)) :
    Calls Tryz.prog 122 #[.pointer (some ⟨g, 0, none⟩), takeFn g, .int .i64 most] w fun e w' => e = .returned (.tuple #[.int .i64 0, .slice none 0 0, .bool false]) ∧ Rd w' g B l err' ∧ w.grownBy w' (some g) := by
  unfold takeFn
  have HT := Lib.hid ht
  clear ht
  go_enter Tryz.func122, Tryz.ntmps122
  go_wp2_with fail
  refine HT.out.mono ?_
  rintro e w1 ⟨rfl, hr1, hg1⟩
  go_wp2_with fail
  go_ret3
  exact ⟨rfl, hr1, hg1⟩

set_option maxHeartbeats 1000000 in
set_option maxRecDepth 100000 in
theorem count_any (g B : Nat) (l : List UInt8) (err : Nat) (most : Int) (w : World) (hr : Rd w g B l err) (hB : B ≤ w.heap.size) (hl : l.length ≤ 1099511627776) (hm : most ≤ 9223372036854775807) (hm2 : -9223372036854775808 ≤ most) :
    Calls Tryz.prog 79 #[.pointer (some ⟨g, 0, none⟩), .int .i64 most] w fun e w' => e = .returned (.int .i64 ((rdCount l err most).1 : Int)) ∧ Rd w' g B (rdCount l err most).2.1 (rdCount l err most).2.2 ∧ w.grownBy w' (some g) := by
  have hmf := run_makeFunc Tryz.prog
  have no : ∀ err', rdCount l err most = (0, l, err') → (Calls Tryz.prog 122 #[.pointer (some ⟨g, 0, none⟩), takeFn g, .int .i64 most] w fun e w' => e = .returned (.tuple #[.int .i64 0, .slice none 0 0, .bool false]) ∧ Rd w' g B l err' ∧ w.grownBy w' (some g)) →
      Calls Tryz.prog 79 #[.pointer (some ⟨g, 0, none⟩), .int .i64 most] w fun e w' => e = .returned (.int .i64 ((rdCount l err most).1 : Int)) ∧ Rd w' g B (rdCount l err most).2.1 (rdCount l err most).2.2 ∧ w.grownBy w' (some g) := by
    intro err' hrc hb
    have HRC := Lib.hid hrc
    have HBL := Lib.hid hb
    clear hrc hb
    go_enter Tryz.func79, Tryz.ntmps79
    go_wp2_with fail
    refine HBL.out.mono ?_
    rintro e w1 ⟨rfl, hr1, hg1⟩
    go_wp2_with fail
    go_ret
    rw [HRC.out]
    exact ⟨rfl, hr1, hg1⟩
  by_cases h0 : err = 0
  · subst h0
    cases hgv : getVarB l with
    | error er =>
      refine no (rdErr er) (by unfold rdCount; rw [if_neg (by simp), hgv]) ?_
      exact below_no g B l most w 0 _ (rtake_err g B l er w hr hl hgv)
    | ok xn =>
      obtain ⟨x, n⟩ := xn
      by_cases hx : most < (x : Int)
      · refine no 32 (by unfold rdCount; rw [if_neg (by simp), hgv]; simp only; rw [if_pos hx]) ?_
        exact below_big g B l x n most w hr hl hgv hm hm2 hx
      · have HRC : Hid (rdCount l 0 most = (x, l.drop n, 0)) := by unfold rdCount; rw [if_neg (by simp), hgv]; simp only; rw [if_neg hx]; rfl
        have HBL := Lib.hid (below_ok g B l x n most w hr hl hgv hm (by omega))
        have HR := Lib.hid hr
        clear no hr
        go_enter Tryz.func79, Tryz.ntmps79
        go_wp2_with fail
        refine HBL.out.mono ?_
        rintro e w1 ⟨A1, k1, c1, rfl, hown1, hbl1⟩
        obtain ⟨A, k, c, hb1, _⟩ := HR.out.later hbl1
        have d0 : w1.cell? ⟨g, 0, none⟩ = some (.slice A k c) := hb1.cell 0
        have f0 := hb1.free 0
        go_wp2_with fail
        go_ret
        rw [HRC.out]
        exact ⟨rfl, ⟨A1, k1, c1, hb1.put 0 _, (Ub.of_own (hown1.lower hB)).beside hb1 (by decide) (grown_put _ _ _ _)⟩, (below_grownBy hbl1 _).trans (grown_put _ _ _ _)⟩
  · refine no err (by unfold rdCount; rw [if_pos h0]) ?_
    refine below_no g B l most w err err ((rtake_old g B l err w hr h0).mono ?_)
    rintro e w1 ⟨rfl, rfl⟩
    exact ⟨rfl, hr, World.grownBy.refl _ _⟩

/-- What End says. -/
def rdEnd (l : List UInt8) (err : Nat) : Nat := if err = 0 ∧ 0 < l.length then 31 else err
set_option maxHeartbeats 400000 in
theorem end_rd (g B : Nat) (l : List UInt8) (err : Nat) (w : World) (hr : Rd w g B l err) (hl : l.length ≤ 1099511627776) :
    Calls Tryz.prog 80 #[.pointer (some ⟨g, 0, none⟩)] w fun e w' => e = .returned (.int .i64 (rdEnd l err : Int)) ∧ w = w' := by
  obtain ⟨A, k, c, hb, hown⟩ := hr
  have d0 : w.cell? ⟨g, 0, none⟩ = some (.slice A k c) := hb.cell 0
  have d1 : w.cell? ⟨g, 1, none⟩ = some (.int .i64 (err : Int)) := hb.cell 1
  obtain rfl := hown.len
  clear hb hown
  by_cases h0 : err = 0
  · subst h0
    by_cases hz : 0 < l.length
    · have HE : Hid (rdEnd l 0 = 31) := by unfold rdEnd; rw [if_pos ⟨rfl, hz⟩]; rfl
      go_enter Tryz.func80, Tryz.ntmps80
      go_wp2_with fail
      go_ret
      rw [HE.out]
      exact ⟨rfl, rfl⟩
    · have HE : Hid (rdEnd l 0 = 0) := by unfold rdEnd; rw [if_neg (fun h => hz h.2)]; rfl
      go_enter Tryz.func80, Tryz.ntmps80
      go_wp2_with fail
      go_ret
      rw [HE.out]
      exact ⟨rfl, rfl⟩
  · have HE : Hid (rdEnd l err = err) := by unfold rdEnd; rw [if_neg (fun h => h0 h.1)]; rfl
    have t0 : ((err : Int) == 0) = false := by rw [beq_eq_false_iff_ne]; omega
    clear h0
    go_enter Tryz.func80, Tryz.ntmps80
    go_wp2_with fail
    go_ret
    rw [HE.out]
    exact ⟨rfl, rfl⟩
end Go.Proofs.YthbhkdhljlganaaGreatDoor

namespace Go.Proofs.YthbhkdhljlganaaGreatDoor
open Go
set_option linter.unusedVariables false

def rdErrP (e : Nat) : Nat := if e = 10 then 30 else e
/-- Reader.Num, Reader.Text: what is taken, what is left, the fault. -/
def rdNum (l : List UInt8) (err : Nat) : Nat × List UInt8 × Nat :=
  if err ≠ 0 then (0, l, err) else match getVarB l with
    | .error er => (0, l, rdErrP er)
    | .ok (x, n) => (x, l.drop n, 0)
def rdText (l : List UInt8) (err : Nat) : List UInt8 × List UInt8 × Nat :=
  if err ≠ 0 then ([], l, err) else match getVarB l with
    | .error er => ([], l, rdErrP er)
    | .ok (x, n) => if 65536 < x then ([], l, 32) else if (l.drop n).length < x then ([], l, 30) else ((l.drop n).take x, (l.drop n).drop x, 0)
theorem rdNum_put {x : Nat} (hx : x < U64) (s : List UInt8) : rdNum (varB x ++ s) 0 = (x, s, 0) := by
  unfold rdNum
  rw [if_neg (by simp), getVarB_varB hx]
  simp
theorem rdText_put {t : List UInt8} (ht : t.length ≤ 65536) (s : List UInt8) : rdText (varB t.length ++ (t ++ s)) 0 = (t, s, 0) := by
  unfold rdText
  rw [if_neg (by simp), getVarB_varB (by unfold U64; omega)]
  simp only [List.drop_left]
  rw [if_neg (by omega), if_neg (by simp)]
  simp

/-- The record that stands first, and how many bytes it has. -/
def recGet (l : List UInt8) : Option ((Nat × List UInt8) × Nat) :=
  if l.length < 4 ∨ (l.drop 4).length < deB (l.take 4) then none
  else match openB ((l.drop 4).take (deB (l.take 4))) with
    | .error _ => none
    | .ok f =>
      if (rdText (rdNum f 0).2.1 (rdNum f 0).2.2).2.2 = 0 ∧ (rdText (rdNum f 0).2.1 (rdNum f 0).2.2).2.1 = [] ∧ (rdText (rdNum f 0).2.1 (rdNum f 0).2.2).1.length ≤ 32768
      then some (((rdNum f 0).1, (rdText (rdNum f 0).2.1 (rdNum f 0).2.2).1), 4 + deB (l.take 4)) else none
end Go.Proofs.YthbhkdhljlganaaGreatDoor

namespace Go.Proofs.YthbhkdhljlganaaGreatDoor
open Go Go.RowKit
set_option linter.unusedVariables false

set_option maxHeartbeats 1000000 in
theorem rnum_any (g B : Nat) (l : List UInt8) (err : Nat) (w : World) (hr : Rd w g B l err) (hB : B ≤ w.heap.size) (hl : l.length ≤ 1099511627776) :
    Calls Tryz.prog 77 #[.pointer (some ⟨g, 0, none⟩)] w fun e w' => e = .returned (.int .u64 ((rdNum l err).1 : Int)) ∧ Rd w' g B (rdNum l err).2.1 (rdNum l err).2.2 ∧ w.grownBy w' (some g) := by
  have no : ∀ err', rdNum l err = (0, l, err') → (Calls Tryz.prog 121 #[.pointer (some ⟨g, 0, none⟩)] w fun e w' => e = .returned (.tuple #[.int .u64 0, .slice none 0 0, .bool false]) ∧ Rd w' g B l err' ∧ w.grownBy w' (some g)) →
      Calls Tryz.prog 77 #[.pointer (some ⟨g, 0, none⟩)] w fun e w' => e = .returned (.int .u64 ((rdNum l err).1 : Int)) ∧ Rd w' g B (rdNum l err).2.1 (rdNum l err).2.2 ∧ w.grownBy w' (some g) := by
    intro err' hrc hb
    have HRC := Lib.hid hrc
    have HBL := Lib.hid hb
    clear hrc hb
    go_enter Tryz.func77, Tryz.ntmps77
    go_wp2_with fail
    refine HBL.out.mono ?_
    rintro e w1 ⟨rfl, hr1, hg1⟩
    go_wp2_with fail
    go_ret
    rw [HRC.out]
    exact ⟨rfl, hr1, hg1⟩
  by_cases h0 : err = 0
  · subst h0
    cases hgv : getVarB l with
    | error er =>
      exact no (rdErr er) (by unfold rdNum; rw [if_neg (by simp), hgv]; rfl) (rtake_err g B l er w hr hl hgv)
    | ok xn =>
      obtain ⟨x, n⟩ := xn
      have HRC : Hid (rdNum l 0 = (x, l.drop n, 0)) := by unfold rdNum; rw [if_neg (by simp), hgv]; rfl
      have HBL := Lib.hid (rtake_ok g B l x n w hr hl hgv)
      have HR := Lib.hid hr
      clear no hr
      go_enter Tryz.func77, Tryz.ntmps77
      go_wp2_with fail
      refine HBL.out.mono ?_
      rintro e w1 ⟨A1, k1, c1, rfl, hown1, hbl1⟩
      obtain ⟨A, k, c, hb1, _⟩ := HR.out.later hbl1
      have d0 : w1.cell? ⟨g, 0, none⟩ = some (.slice A k c) := hb1.cell 0
      have f0 := hb1.free 0
      go_wp2_with fail
      go_ret
      rw [HRC.out]
      exact ⟨rfl, ⟨A1, k1, c1, hb1.put 0 _, (Ub.of_own (hown1.lower hB)).beside hb1 (by decide) (grown_put _ _ _ _)⟩, (below_grownBy hbl1 _).trans (grown_put _ _ _ _)⟩
  · refine no err (by unfold rdNum; rw [if_pos h0]) ((rtake_old g B l err w hr h0).mono ?_)
    rintro e w1 ⟨rfl, rfl⟩
    exact ⟨rfl, hr, World.grownBy.refl _ _⟩


set_option maxHeartbeats 1000000 in
set_option maxRecDepth 100000 in
theorem rtext_no (g B : Nat) (l : List UInt8) (w : World) (err' : Nat)
    (hb : Calls Tryz.prog 122 #[.pointer (some ⟨g, 0, none⟩), takeFn g, .int .i64 65536] w fun e w' => e = .returned (.tuple #[.int .i64 0, .slice none 0 0, .bool false]) ∧ Rd w' g B l err' ∧ w.grownBy w' (some g)) :
    Calls Tryz.prog 91 #[.pointer (some ⟨g, 0, none⟩)] w fun e w' => e = .returned (.string (st [])) ∧ Rd w' g B l err' ∧ w.grownBy w' (some g) := by
  have hmf := run_makeFunc Tryz.prog
  have HBL := Lib.hid hb
  clear hb
  go_enter Tryz.func91, Tryz.ntmps91
  go_wp2_with fail
  refine HBL.out.mono ?_
  rintro e w1 ⟨rfl, hr1, hg1⟩
  go_wp2_with fail
  go_ret
  exact ⟨rfl, hr1, hg1⟩
set_option maxHeartbeats 1000000 in
set_option maxRecDepth 100000 in
theorem rtext_short (g B : Nat) (l : List UInt8) (x n : Nat) (w : World) (hr : Rd w g B l 0) (hl : l.length ≤ 1099511627776) (hg : getVarB l = .ok (x, n)) (hx : x ≤ 65536) (hs : (l.drop n).length < x) :
    Calls Tryz.prog 91 #[.pointer (some ⟨g, 0, none⟩)] w fun e w' => e = .returned (.string (st [])) ∧ Rd w' g B l 30 ∧ w.grownBy w' (some g) := by
  have hmf := run_makeFunc Tryz.prog
  have HBL := Lib.hid (below_ok g B l x n 65536 w hr hl hg (by omega) (by omega))
  have HR := Lib.hid hr
  clear hr
  generalize l.drop n = m at *
  go_enter Tryz.func91, Tryz.ntmps91
  go_wp2_with fail
  refine HBL.out.mono ?_
  rintro e w1 ⟨A1, k1, c1, rfl, hown1, hbl1⟩
  obtain rfl := hown1.len
  have HR1 := Lib.hid (HR.out.later hbl1)
  have t0 : decide (m.length < x) = true := by rw [decide_eq_true_eq]; exact hs
  go_wp2_with fail
  refine (fail_any g B l 0 30 w1 HR1.out (by omega) (by omega)).mono ?_
  rintro e w2 ⟨rfl, hr2, hg2⟩
  go_wp2_with fail
  go_ret
  exact ⟨rfl, hr2, (below_grownBy hbl1 _).trans hg2⟩
set_option maxHeartbeats 1000000 in
set_option maxRecDepth 100000 in
theorem rtext_ok (g B : Nat) (l : List UInt8) (x n : Nat) (w : World) (hr : Rd w g B l 0) (hB : B ≤ w.heap.size) (hl : l.length ≤ 1099511627776) (hg : getVarB l = .ok (x, n)) (hx : x ≤ 65536) (hs : ¬ (l.drop n).length < x) :
    Calls Tryz.prog 91 #[.pointer (some ⟨g, 0, none⟩)] w fun e w' => e = .returned (.string (st ((l.drop n).take x))) ∧ Rd w' g B ((l.drop n).drop x) 0 ∧ w.grownBy w' (some g) := by
  have hmf := run_makeFunc Tryz.prog
  have HBL := Lib.hid (below_ok g B l x n 65536 w hr hl hg (by omega) (by omega))
  have HR := Lib.hid hr
  have hll : (l.drop n).length ≤ 1099511627776 := by rw [List.length_drop]; omega
  clear hr
  generalize l.drop n = m at *
  go_enter Tryz.func91, Tryz.ntmps91
  go_wp2_with fail
  refine HBL.out.mono ?_
  rintro e w1 ⟨A1, k1, c1, rfl, hown1, hbl1⟩
  obtain rfl := hown1.len
  obtain ⟨A, k, c, hb1, _⟩ := HR.out.later hbl1
  have d0 : w1.cell? ⟨g, 0, none⟩ = some (.slice A k c) := hb1.cell 0
  have f0 := hb1.free 0
  have HB1 := Lib.hid hb1
  have t0 : decide (m.length < x) = false := by rw [decide_eq_false_iff_not]; exact hs
  have hxm : x ≤ m.length := by omega
  clear hs hb1
  rcases hown1.2 with ⟨hv, hn⟩ | ⟨g1, cap, cur, hv, _, _, hnc, hcm, _⟩
  · injection hv with hA _ hc
    subst hA hc
    obtain rfl : m = [] := List.eq_nil_of_length_eq_zero hn
    obtain rfl : x = 0 := by simpa using hxm
    have cv := run_string_of_bs (P := Tryz.prog) (Bs.nilv (fun _ => True) (w1.setCell ⟨g, 0, none⟩ (.slice none 0 0))) tB tU tS
    clear hown1
    go_wp2_with fail
    go_ret
    exact ⟨rfl, ⟨none, 0, 0, HB1.out.put 0 _, Bs.nilv _ _⟩, (below_grownBy hbl1 _).trans (grown_put _ _ _ _)⟩
  · injection hv with hA _ hc
    subst hA hc
    have hu := (Ub.of_own (hown1.lower hB)).beside HB1.out (by decide) (grown_put w1 g 0 (.slice (if c1 = x then some ⟨g1, 0, none⟩ else some ⟨g1, 0 + x, none⟩) (m.length - x) (c1 - x)))
    have cv := run_string_of_bs (P := Tryz.prog) (Bs.pre hu.bs hxm) tB tU tS
    have hcut : Hid (Ub (w1.setCell ⟨g, 0, none⟩ (.slice (if c1 = x then some ⟨g1, 0, none⟩ else some ⟨g1, 0 + x, none⟩) (m.length - x) (c1 - x))) B _ _) := Bs.cut hu hxm
    clear hown1 hu
    by_cases hcx : c1 = x
    · rw [if_pos hcx] at cv hcut
      subst hcx
      rw [Nat.sub_self, show m.length - c1 = 0 by omega] at cv hcut
      go_wp2_with fail
      go_ret
      exact ⟨rfl, ⟨_, _, _, HB1.out.put 0 _, hcut⟩, (below_grownBy hbl1 _).trans (grown_put _ _ _ _)⟩
    · rw [if_neg hcx, Nat.zero_add] at cv hcut
      go_wp2_with fail
      go_ret
      exact ⟨rfl, ⟨_, _, _, HB1.out.put 0 _, hcut⟩, (below_grownBy hbl1 _).trans (grown_put _ _ _ _)⟩

set_option maxHeartbeats 1000000 in
theorem rtext_any (g B : Nat) (l : List UInt8) (err : Nat) (w : World) (hr : Rd w g B l err) (hB : B ≤ w.heap.size) (hl : l.length ≤ 1099511627776) :
    Calls Tryz.prog 91 #[.pointer (some ⟨g, 0, none⟩)] w fun e w' => e = .returned (.string (st (rdText l err).1)) ∧ Rd w' g B (rdText l err).2.1 (rdText l err).2.2 ∧ w.grownBy w' (some g) := by
  by_cases h0 : err = 0
  · subst h0
    cases hgv : getVarB l with
    | error er =>
      have e : rdText l 0 = ([], l, rdErr er) := by unfold rdText; rw [if_neg (by simp), hgv]; rfl
      rw [e]
      exact rtext_no g B l w _ (below_no g B l 65536 w 0 _ (rtake_err g B l er w hr hl hgv))
    | ok xn =>
      obtain ⟨x, n⟩ := xn
      by_cases hx : 65536 < x
      · have e : rdText l 0 = ([], l, 32) := by unfold rdText; rw [if_neg (by simp), hgv]; simp only; rw [if_pos hx]
        rw [e]
        exact rtext_no g B l w _ (below_big g B l x n 65536 w hr hl hgv (by omega) (by omega) (by omega))
      · by_cases hs : (l.drop n).length < x
        · have e : rdText l 0 = ([], l, 30) := by unfold rdText; rw [if_neg (by simp), hgv]; simp only; rw [if_neg hx, if_pos hs]
          rw [e]
          exact rtext_short g B l x n w hr hl hgv (by omega) hs
        · have e : rdText l 0 = ((l.drop n).take x, (l.drop n).drop x, 0) := by unfold rdText; rw [if_neg (by simp), hgv]; simp only; rw [if_neg hx, if_neg hs]
          rw [e]
          exact rtext_ok g B l x n w hr hB hl hgv (by omega) hs
  · have e : rdText l err = ([], l, err) := by unfold rdText; rw [if_pos h0]
    rw [e]
    refine rtext_no g B l w _ (below_no g B l 65536 w err err ((rtake_old g B l err w hr h0).mono ?_))
    rintro e w1 ⟨rfl, rfl⟩
    exact ⟨rfl, hr, World.grownBy.refl _ _⟩
end Go.Proofs.YthbhkdhljlganaaGreatDoor

namespace Go.Proofs.YthbhkdhljlganaaGreatDoor
open Go Go.RowKit
set_option linter.unusedVariables false

/-- Reader.Flag: what is taken, what is left, the fault. -/
def rdFlag (l : List UInt8) (err : Nat) : Bool × List UInt8 × Nat :=
  if err ≠ 0 then (false, l, err) else match l with
    | [] => (false, [], 30)
    | b :: r => if 1 < b.toNat then (false, b :: r, 33) else (b.toNat == 1, r, 0)

set_option maxHeartbeats 400000 in
theorem rbad_any (g B gb : Nat) (l : List UInt8) (e0 : Nat) (w : World) (hr : Rd w g B l 0) (he : e0 ≤ 1000) (hb : Blk w gb 154 #[.pointer (some ⟨g, 0, none⟩)]) :
    Calls Tryz.prog 131 #[.int .i64 e0, .pointer (some ⟨gb, 0, none⟩)] w fun e w' => e = .returned (.bool false) ∧ Rd w' g B l e0 ∧ w.grownBy w' (some g) := by
  have c0 : w.cell? ⟨gb, 0, none⟩ = some (.pointer (some ⟨g, 0, none⟩)) := hb.cell 0
  have HC := Lib.hid (fail_any g B l 0 e0 w hr he (by omega))
  clear hb hr
  go_enter Tryz.func131, Tryz.ntmps131
  go_wp2_with fail
  refine HC.out.mono ?_
  rintro e w1 ⟨rfl, hr1, hg1⟩
  go_wp2_with fail
  go_ret
  exact ⟨rfl, hr1, hg1⟩

theorem beq_nat_int (n : Nat) : (((n : Int)) == 1) = (n == 1) := by
  rw [Bool.eq_iff_iff, beq_iff_eq, beq_iff_eq]
  omega
theorem grown_drew {w w' : World} {row : Option Nat} (h : w.grownBy w' row) : w.grownBy w'.drew row := ⟨h.os, h.tape, h.output, h.size, h.block⟩
set_option maxHeartbeats 1000000 in
set_option maxRecDepth 100000 in
theorem rflag_any (g B : Nat) (l : List UInt8) (err : Nat) (w : World) (hr : Rd w g B l err) (hB : B ≤ w.heap.size) (hl : l.length ≤ 1099511627776) :
    Calls Tryz.prog 92 #[.pointer (some ⟨g, 0, none⟩)] w fun e w' => e = .returned (.bool (rdFlag l err).1) ∧ Rd w' g B (rdFlag l err).2.1 (rdFlag l err).2.2 ∧ w.grownBy w' (some g) := by
  have hmf := run_makeFunc Tryz.prog
  have hnb := Blk.new w 154 #[.pointer (some ⟨g, 0, none⟩)]
  have hgl := hr.lt
  have hrl := hr.later ((Below.refl _ _).alloc (Nat.le_refl _) (.cells #[.pointer (some ⟨g, 0, none⟩)] 154))
  have hgr : w.grownBy (w.alloc (.cells #[.pointer (some ⟨g, 0, none⟩)] 154)) (some g) := below_grownBy ((Below.refl _ _).alloc (Nat.le_refl _) _) _
  have p0 : (w.alloc (.cells #[.pointer (some ⟨g, 0, none⟩)] 154)).cell? ⟨w.heap.size, 0, none⟩ = some (.pointer (some ⟨g, 0, none⟩)) := hnb.cell 0
  obtain ⟨A, k, c, hb, hub⟩ := id hrl
  have d0 : (w.alloc (.cells #[.pointer (some ⟨g, 0, none⟩)] 154)).cell? ⟨g, 0, none⟩ = some (.slice A k c) := hb.cell 0
  have d1 : (w.alloc (.cells #[.pointer (some ⟨g, 0, none⟩)] 154)).cell? ⟨g, 1, none⟩ = some (.int .i64 (err : Int)) := hb.cell 1
  have f0 := hb.free 0
  have f1 := hb.free 1
  obtain rfl := hub.len
  have HU := Lib.hid hub
  have HBK := Lib.hid hb
  have HRL := Lib.hid hrl
  clear hr hub hb hrl
  by_cases h0 : err = 0
  · subst h0
    rcases l with _ | ⟨x, l⟩
    · have HV : Hid (rdFlag [] 0 = (false, [], 30)) := by unfold rdFlag; rw [Hid, if_neg (by simp)]
      have HC := Lib.hid (rbad_any g B w.heap.size [] 30 _ HRL.out (by omega) hnb)
      go_enter Tryz.func92, Tryz.ntmps92
      go_wp2_with fail
      refine HC.out.mono ?_
      rintro e w1 ⟨rfl, hr1, hg1⟩
      go_wp2_with fail
      go_ret
      rw [HV.out]
      exact ⟨rfl, hr1, hgr.trans hg1⟩
    · obtain ⟨A', c', hv, hlc, hcm, _, hcell⟩ := Bs.at HU.out
      injection hv with hA _ hc
      subst hA hc
      obtain ⟨b, o, rfl, hS, hcc⟩ := hcell (by simp)
      have cx : (w.alloc (.cells #[.pointer (some ⟨g, 0, none⟩)] 154)).cell? ⟨b, o, none⟩ = some (.int .u8 (x.toNat : Int)) := by
        have := hcc 0 (by simp)
        simpa using this
      have hlen : (x :: l).length = l.length + 1 := rfl
      have hxb := x.toNat_lt
      have HCUT : Hid (Ub (w.alloc (.cells #[.pointer (some ⟨g, 0, none⟩)] 154)) B _ _) := Bs.cut HU.out (show 1 ≤ (x :: l).length by simp)
      rw [hlen] at d0 hlc
      have HLEN := Lib.hid hlen
      clear hcell hcc hlen
      by_cases hx : 1 < x.toNat
      · have HV : Hid (rdFlag (x :: l) 0 = (false, x :: l, 33)) := by unfold rdFlag; rw [Hid, if_neg (by simp)]; simp only; rw [if_pos hx]
        have HC := Lib.hid (rbad_any g B w.heap.size (x :: l) 33 _ HRL.out (by omega) hnb)
        go_enter Tryz.func92, Tryz.ntmps92
        go_wp2_with fail
        refine HC.out.mono ?_
        rintro e w1 ⟨rfl, hr1, hg1⟩
        go_wp2_with fail
        go_ret
        rw [HV.out]
        exact ⟨rfl, hr1, hgr.trans hg1⟩
      · have HV : Hid (rdFlag (x :: l) 0 = (x.toNat == 1, l, 0)) := by unfold rdFlag; rw [Hid, if_neg (by simp)]; simp only; rw [if_neg hx]
        rw [HLEN.out, Nat.add_sub_cancel, List.drop_succ_cons, List.drop_zero] at HCUT
        by_cases hc1 : c = 1
        case' pos =>
          rw [if_pos hc1] at HCUT
          subst hc1
          have hl0 : l.length = 0 := by omega
          rw [hl0] at HCUT
        case' neg =>
          rw [if_neg hc1] at HCUT
        all_goals
          go_enter Tryz.func92, Tryz.ntmps92
          go_wp2_with fail
          generalize w.alloc (.cells #[.pointer (some ⟨g, 0, none⟩)] 154) = W at *
          go_region
          all_goals
            go_wp2_with fail
            go_ret
            rw [HV.out]
            exact ⟨by simp only [beq_nat_int]; rfl, ⟨_, _, _, Blk.drew (HBK.out.put 0 _), (Ub.beside HCUT HBK.out (by decide) (grown_drew (grown_put _ _ _ _)))⟩, hgr.trans (grown_drew (grown_put _ _ _ _))⟩
  · have HV : Hid (rdFlag l err = (false, l, err)) := by unfold rdFlag; rw [Hid, if_pos h0]
    have t0 : ((err : Int) != 0) = true := by rw [bne_iff_ne]; omega
    clear h0
    go_enter Tryz.func92, Tryz.ntmps92
    go_wp2_with fail
    go_ret
    rw [HV.out]
    exact ⟨rfl, HRL.out, hgr⟩
end Go.Proofs.YthbhkdhljlganaaGreatDoor

namespace Go.Proofs.YthbhkdhljlganaaGreatDoor
open Go Go.RowKit
set_option linter.unusedVariables false

/-- So many cells are taken. -/
def rdCells : Nat → List UInt8 × Nat → List Cel → List Cel × (List UInt8 × Nat)
  | 0, s, acc => (acc, s)
  | n + 1, s, acc => rdCells n (rdText (rdText s.1 s.2).2.1 (rdText s.1 s.2).2.2).2 (acc ++ [((rdText s.1 s.2).1, (rdText (rdText s.1 s.2).2.1 (rdText s.1 s.2).2.2).1)])
/-- The page of bytes' fields. -/
def pgIn (f : List UInt8) : Option (Bool × Nat × List Cel) :=
  match rdFlag f 0 with
  | (b, s1, e1) => match rdCount s1 e1 256 with
    | (n, s2, e2) => match rdCount s2 e2 2048 with
      | (c, s3, e3) => match rdCells c (s3, e3) [] with
        | (cs, s4, e4) => if rdEnd s4 e4 = 0 ∧ pgChk (n : Int) cs = 0 then some (b, n, cs) else none
def pgOfB (l : List UInt8) : Option (Bool × Nat × List Cel) := match openB l with
  | .error _ => none
  | .ok f => pgIn f
theorem openB_errs {l : List UInt8} {er : Nat} (h : openB l = .error er) : er = 20 ∨ er = 21 := by
  unfold openB at h
  split at h
  · cases h; exact .inl rfl
  · split at h
    · cases h
    · cases h; exact .inr rfl
theorem openB_lens {l f : List UInt8} (h : openB l = .ok f) {m : Nat} (hm : l.length ≤ m) : f.length ≤ m := by
  unfold openB at h
  split at h
  · cases h
  · split at h
    · cases h; rw [List.length_take]; omega
    · cases h
theorem own_beside {w w' : World} {B : Nat} {e : TypeId} {size n : Nat} {v : Value} {xs : List Value} (h : w.ownsRow B e size v n xs) {g : Nat} {t : TypeId} {cs : Array Value} (hb : Blk w g t cs) (hne : e ≠ t) (hg : w.grownBy w' (some g)) : w'.ownsRow B e size v n xs := by
  have hn := own_ne h hb hne
  obtain ⟨h1, h2⟩ := h
  refine ⟨h1, ?_⟩
  rcases h2 with h2 | ⟨g', cap, cur, hv, hB, hh, r⟩
  · exact .inl h2
  · refine .inr ⟨g', cap, cur, hv, hB, ?_, r⟩
    exact (hg.block g' (lt_of_block hh) (fun e => hn (by rw [hv]; simp [Value.ownBlock]; injection e))).trans hh
theorem Rd.blk {w : World} {g B : Nat} {l : List UInt8} {err : Nat} (h : Rd w g B l err) : ∃ cs, Blk w g 210 cs := by
  obtain ⟨A, k, c, h1, _⟩ := h
  exact ⟨_, h1⟩
theorem Co.beside {w w' : World} {B : Nat} {v : Value} {cs : List Cel} (h : Co w B v cs) {g B' : Nat} {l : List UInt8} {err : Nat} (hr : Rd w g B' l err) (hg : w.grownBy w' (some g)) : Co w' B v cs := by
  obtain ⟨_, hb⟩ := hr.blk
  exact own_beside h hb (by decide) hg

theorem rdCount_bd (l : List UInt8) (err m : Nat) (he : err ≤ 1000) : (rdCount l err (m : Int)).1 ≤ m ∧ (rdCount l err (m : Int)).2.1.length ≤ l.length ∧ (rdCount l err (m : Int)).2.2 ≤ 1000 := by
  unfold rdCount
  split
  · exact ⟨Nat.zero_le _, Nat.le_refl _, he⟩
  · split
    · rename_i er hg
      exact ⟨Nat.zero_le _, Nat.le_refl _, (rdErr_le hg).1⟩
    · rename_i x n hg
      split
      · exact ⟨Nat.zero_le _, Nat.le_refl _, (show 32 ≤ 1000 by decide)⟩
      · rename_i hx
        exact ⟨by simp only; omega, by simp only [List.length_drop]; omega, Nat.zero_le _⟩
theorem rdFlag_bd (l : List UInt8) (err : Nat) (he : err ≤ 1000) : (rdFlag l err).2.1.length ≤ l.length ∧ (rdFlag l err).2.2 ≤ 1000 := by
  unfold rdFlag
  split
  · exact ⟨Nat.le_refl _, he⟩
  · rcases l with _ | ⟨b, l⟩
    · exact ⟨Nat.le_refl _, (show 30 ≤ 1000 by decide)⟩
    · simp only
      split
      · exact ⟨Nat.le_refl _, (show 33 ≤ 1000 by decide)⟩
      · exact ⟨by simp, Nat.zero_le _⟩
theorem rdText_bd (l : List UInt8) {e : Nat} (he : e ≤ 1000) : (rdText l e).1.length ≤ 65536 ∧ (rdText l e).2.1.length ≤ l.length ∧ (rdText l e).2.2 ≤ 1000 := by
  unfold rdText
  split
  · exact ⟨by simp, Nat.le_refl _, he⟩
  · split
    · rename_i er hg
      exact ⟨by simp, Nat.le_refl _, (rdErr_le hg).1⟩
    · rename_i x n hg
      split
      · exact ⟨by simp, Nat.le_refl _, (show 32 ≤ 1000 by decide)⟩
      · split
        · exact ⟨by simp, Nat.le_refl _, (show 30 ≤ 1000 by decide)⟩
        · exact ⟨by simp only [List.length_take]; omega, by simp only [List.length_drop]; omega, Nat.zero_le _⟩
/-- A new block of one cell reads as that cell. -/
theorem Sl.newcel {S : Nat → Prop} (w : World) (c : Cel) {g : Nat} (hg : g = w.heap.size) (hS : S g) :
    Sl S (w.alloc (.cells #[.string (st c.1), .string (st c.2)] 81)) 2 (.slice (some ⟨g, 0, none⟩) 1 1) 1 (ccs [c]) := by
  subst hg
  refine ⟨by simp [ccs], _, 1, rfl, by simp, by simp [maxLen], (fun h => by cases h), fun _ => ⟨_, 0, rfl, hS, fun j v hu => ?_⟩⟩
  rw [World.cell?_alloc_new, Nat.zero_add]
  simpa [ccs] using hu
/-- append as one step of a region that draws: w0 is the world without the draws. -/
theorem step_append_cl {P : Program} {w : World} {ops : Array Oper} {o : Oper} {a : Act} {K : Act → World → Prop} {Q : Exit → Act → World → Prop} {F : Prop} (w0 : World) (hd : Drawn w0 w) (hgd : o.guard = none) (s x : Operand) {t e : TypeId} {z : Value} {size bytes : Nat}
    (E : Elem P t e z size bytes) (ho : o.op = .call { callee := .builtin .append, args := #[s, x], argTypes := #[t, t] })
    {base : Nat} {v : Value} {n : Nat} {xs : List Value} (hown : w0.ownsRow base e size v n xs)
    {S : Nat → Prop} {u : Value} {m : Nat} {news : List Value} (hr : Sl S w0 size u m news) (hs : a.eval s = v) (hx : a.eval x = u) (h1 : ∀ y ∈ news, y.oneCell' = true)
    (hlen : n + m ≤ maxLen) (hbytes : (n + m) * bytes ≤ 140737488355328) (hbase : base ≤ w0.heap.size)
    (h : ∀ A k c w', w'.ownsRow base e size (.slice A k c) (n + m) (xs ++ news) → w0.grownBy w' v.ownBlock → K (a.put o.dst (.slice A k c)) w') :
    if Region.wanted o (yielded ops a.tmps) = true then Oper.wp P o a w K Q else F := by
  have hw : Region.wanted o (yielded ops a.tmps) = true := by simp [Region.wanted, hgd]
  rw [if_pos hw]
  obtain ⟨d, rfl⟩ := hd
  obtain ⟨v', w', hrun, h2, h3, h4⟩ := run_append_sl (P := P) (w0.drewN d) E o.type hown (Sl.drewN hr d) h1 hlen hbytes hbase
  obtain ⟨A, k, c, rfl⟩ := own_slice h2
  unfold Oper.wp execOp
  simp only [ho, resolve, invoke, builtin, Sem.run_bind, Sem.run_pure, Result.andThen_ok, List.map_toArray, List.map_cons, List.map_nil, hs, hx, hrun]
  exact h A k c w' h2 ⟨h3.os, h3.tape, h3.output, h3.size, h3.block⟩
theorem rdCells_step {c i : Nat} (h : i < c) (s : List UInt8 × Nat) (acc : List Cel) : rdCells (c - i) s acc = rdCells (c - (i + 1)) (rdText (rdText s.1 s.2).2.1 (rdText s.1 s.2).2.2).2 (acc ++ [((rdText s.1 s.2).1, (rdText (rdText s.1 s.2).2.1 (rdText s.1 s.2).2.2).1)]) := by
  rw [show c - i = c - (i + 1) + 1 by omega, rdCells]
theorem Rd.keptCo {w w' : World} {g B B' : Nat} {l : List UInt8} {err : Nat} (h : Rd w g B l err) {size n : Nat} {v : Value} {xs : List Value} (ho : w.ownsRow B' 81 size v n xs) (hg : w.grownBy w' v.ownBlock) : Rd w' g B l err := by
  obtain ⟨A, k, c, h1, h2⟩ := h
  refine ⟨A, k, c, h1.kept ho hg (by decide), h2.keep fun b hb => ?_⟩
  obtain ⟨_, cs, fz, hh⟩ := hb
  refine hg.block b (lt_of_block hh) fun e => ?_
  rcases ho.2 with ⟨rfl, _⟩ | ⟨g', cap, cur, rfl, _, hh', _⟩
  · cases e
  · simp only [Value.ownBlock, Option.some.injEq] at e
    subst e
    rw [hh] at hh'
    injection hh' with hh'
    injection hh' with _ he
    exact absurd he (by decide)
/-- The round's two texts and the cell that is put behind the others. -/
structure OfSt (w wr : World) (gp g B : Nat) (b : Bool) (n : Nat) (sl : Value) (cs : List Cel) (l : List UInt8) (er : Nat) : Prop where
  page : Blk wr gp 36 #[.bool b, .int .i64 (n : Int), sl]
  own : Co wr w.heap.size sl cs
  rd : Rd wr g B l er
  below : Below w.heap.size w wr
  room : B ≤ wr.heap.size
  few : cs.length ≤ 2048 ∧ ∀ c ∈ cs, c.1.length ≤ 65536 ∧ c.2.length ≤ 65536
  lens : l.length ≤ 1099511627776 ∧ er ≤ 1000

set_option maxHeartbeats 4000000 in
set_option maxRecDepth 100000 in
theorem pgof_any (S : Nat → Prop) (v0 : Value) (l : List UInt8) (w : World) (hl : l.length ≤ 1099511627776) (hr : Bs S w v0 l) :
    Calls Tryz.prog 47 #[v0] w fun e w' => (∀ b n cs, pgOfB l = some (b, n, cs) → ∃ v, e = .returned (.tuple #[v, .int .i64 0]) ∧ PgIs w.heap.size w' v b (n : Int) cs) ∧
      (pgOfB l = none → e = .returned (.tuple #[.agg #[.bool false, .int .i64 0, .slice none 0 0], .int .i64 101])) ∧ Below w.heap.size w w' := by
  have HR : Hid (Bs (fun b => b < w.heap.size) w v0 l) := (Sl.lt hr (by omega)).more (fun _ h => h.2)
  have hb0 := Blk.new w 36 #[.bool false, .int .i64 0, .slice none 0 0]
  have q0 : Below w.heap.size w (w.alloc (.cells #[.bool false, .int .i64 0, .slice none 0 0] 36)) := (Below.refl _ _).alloc (Nat.le_refl _) _
  have hr0 := Lib.hid (Sl.alloc HR.out (fun _ h => h) (.cells #[.bool false, .int .i64 0, .slice none 0 0] 36))
  have HO0 : Hid (pgOfB l = match openB l with | .error _ => none | .ok f => pgIn f) := rfl
  clear hr
  go_enter Tryz.func47, Tryz.ntmps47
  go_wp2_with fail
  generalize hW : w.alloc (.cells #[.bool false, .int .i64 0, .slice none 0 0] 36) = W at *
  clear hW
  refine (open_any (fun b => b < w.heap.size) v0 l W hl hr0.out).mono ?_
  rintro e w1 ⟨hok, her, hbl1⟩
  have HB0 := Lib.hid hb0
  have hWs := hb0.lt
  have hb1 := hb0.later hbl1
  have q1 := q0.trans (hbl1.mono q0.size)
  cases ho : openB l with
  | error er =>
    obtain rfl := her _ ho
    have HN : Hid (pgOfB l = none) := by rw [Hid, HO0.out, ho]
    have t1 : ((er : Int) != 0) = true := by
      rw [bne_iff_ne]
      have : er = 20 ∨ er = 21 := openB_errs ho
      rcases this with rfl | rfl <;> decide
    have d0 : w1.cell? ⟨w.heap.size, 0, none⟩ = some (.bool false) := hb1.cell 0
    have d1 : w1.cell? ⟨w.heap.size, 1, none⟩ = some (.int .i64 0) := hb1.cell 1
    have d2 : w1.cell? ⟨w.heap.size, 2, none⟩ = some (.slice none 0 0) := hb1.cell 2
    have f0 := hb1.free 0
    have f1 := hb1.free 1
    have f2 := hb1.free 2
    clear ho hok her HO0
    go_wp2_with fail
    exact bodyPost_ret (results_cell2 rfl _ _ w.heap.size rfl (hb1.put3 _ _ _) pageTy) rfl ⟨fun b n cs h => (by rw [HN.out] at h; cases h), fun _ => rfl, below_put3 q1 (Nat.le_refl _) _ _ _⟩
  | ok f =>
    obtain ⟨A1, k1, c1, rfl, hown1⟩ := hok _ ho
    have hfl : f.length ≤ 1099511627776 := openB_lens ho hl
    have HO1 : Hid (pgOfB l = pgIn f) := by rw [Hid, HO0.out, ho]
    have HF := Lib.hid hown1
    have hmf := run_makeFunc Tryz.prog
    clear ho hok her HO0 hown1
    go_wp2_with fail
    refine (read_any _ _ f w1 hfl HF.out.bs).mono ?_
    rintro e w2 ⟨g, rfl, hg2, hr2, hbl2⟩
    have q2 : Below W.heap.size W w2 := hbl1.trans (hbl2.mono hbl1.size)
    have HR2 := Lib.hid hr2
    have hB1 := hbl1.size
    have hB2 := hbl2.size
    clear hr2 hbl2
    go_wp2_with fail
    refine (rflag_any g w1.heap.size f 0 w2 HR2.out hB2 hfl).mono ?_
    rintro e w3 ⟨rfl, hr3, hg3⟩
    have hbd1 := rdFlag_bd f 0 (Nat.zero_le _)
    obtain ⟨X1, hX1⟩ : ∃ X, rdFlag f 0 = X := ⟨_, rfl⟩
    rw [hX1] at hr3 hbd1
    rw [hX1]
    have HX1 := Lib.hid hX1
    obtain ⟨b, s1, e1⟩ := X1
    simp only at hr3 hbd1 ⊢
    have q3 : Below W.heap.size W w3 := q2.trans (grown_below hg3 (by omega) q2.size)
    have hB3 := hg3.size
    have HR3 := Lib.hid hr3
    clear hr3 hg3 hX1
    go_wp2_with fail
    refine (count_any g w1.heap.size s1 e1 256 w3 HR3.out (by omega) (by omega) (by omega) (by omega)).mono ?_
    rintro e w4 ⟨rfl, hr4, hg4⟩
    have hbd2 := rdCount_bd s1 e1 256 hbd1.2
    rw [show (((256 : Nat)) : Int) = 256 from rfl] at hbd2
    obtain ⟨X2, hX2⟩ : ∃ X, rdCount s1 e1 256 = X := ⟨_, rfl⟩
    rw [hX2] at hr4 hbd2
    rw [hX2]
    have HX2 := Lib.hid hX2
    obtain ⟨n, s2, e2⟩ := X2
    simp only at hr4 hbd2 ⊢
    have q4 : Below W.heap.size W w4 := q3.trans (grown_below hg4 (by omega) q3.size)
    have hB4 := hg4.size
    have hgl4 : g < w4.heap.size := by obtain ⟨_, h⟩ := hr4.blk; exact h.lt
    have hbp := Blk.new w4 36 #[.bool b, .int .i64 (n : Int), .slice none 0 0]
    have hr5 := hr4.later ((Below.refl _ _).alloc (Nat.le_refl _) (.cells #[.bool b, .int .i64 (n : Int), .slice none 0 0] 36))
    have q5 := q4.alloc q4.size (.cells #[.bool b, .int .i64 (n : Int), .slice none 0 0] 36)
    have HR5 := Lib.hid hr5
    have hsz5 : w1.heap.size ≤ (w4.alloc (.cells #[.bool b, .int .i64 (n : Int), .slice none 0 0] 36)).heap.size := by simp; omega
    clear hr4 hr5 hg4 hX2 HR3
    go_wp2_with fail
    refine (count_any g w1.heap.size s2 e2 2048 _ HR5.out hsz5 (by omega) (by omega) (by omega)).mono ?_
    rintro e w6 ⟨rfl, hr6, hg6⟩
    have hbd3 := rdCount_bd s2 e2 2048 hbd2.2.2
    rw [show (((2048 : Nat)) : Int) = 2048 from rfl] at hbd3
    obtain ⟨X3, hX3⟩ : ∃ X, rdCount s2 e2 2048 = X := ⟨_, rfl⟩
    rw [hX3] at hr6 hbd3
    rw [hX3]
    have HX3 := Lib.hid hX3
    obtain ⟨c, s3, e3⟩ := X3
    simp only at hr6 hbd3 ⊢
    have hgp : g ≠ w4.heap.size := by omega
    have hbp6 := hbp.grown hg6 (by simpa using hgp)
    have q6 : Below W.heap.size W w6 := q5.trans (grown_below hg6 (by omega) q5.size)
    have R0 : OfSt W w6 w4.heap.size g w1.heap.size b n (.slice none 0 0) [] s3 e3 :=
      ⟨hbp6, Co.nil _ _, hr6, q6, Nat.le_trans hsz5 hg6.size, ⟨Nat.zero_le _, fun c hc => by cases hc⟩, by omega, hbd3.2.2⟩
    have HPG : Hid (pgOfB l = match rdCells c (s3, e3) [] with | (cs, s4, e4) => if rdEnd s4 e4 = 0 ∧ pgChk (n : Int) cs = 0 then some (b, n, cs) else none) := by
      rw [Hid, HO1.out]
      unfold pgIn
      rw [HX1.out]
      simp only
      rw [HX2.out]
      simp only
      rw [HX3.out]
    have hgp4 : W.heap.size ≤ w4.heap.size := q4.size
    have hgW : W.heap.size ≤ g := by omega
    have hc2048 := hbd3.1
    have hn256 := hbd2.1
    clear hr6 hg6 hX3 HR5 hbp hbp6 HX1 HX2 HX3 HO1 hbd1 hbd2 hbd3 q5
    go_wp2_with fail
    go_loopw [28] (fun iv wr => ∃ (i : Nat) (sl : Value) (cs : List Cel) (lr : List UInt8) (er : Nat), iv = .int .i64 (i : Int) ∧ i ≤ c ∧ cs.length = i ∧ OfSt W wr w4.heap.size g w1.heap.size b n sl cs lr er ∧ Hid (rdCells c (s3, e3) [] = rdCells (c - i) (lr, er) cs)) (fun iv _ => c - (intOf iv).toNat)
    case atStart => exact ⟨0, _, [], s3, e3, rfl, by omega, rfl, R0, rfl⟩
    case round =>
      obtain ⟨i, sl, cs, lr, er, rfl, hi, hlen, hst, hrc⟩ := hrel
      clear R0
      by_cases hic : i < c
      · subst hlen
        have hlo := hst.lens
        have hT1 := fun (w' : World) (h1 : Rd w' g w1.heap.size lr er) (h2 : w1.heap.size ≤ w'.heap.size) => rtext_any g w1.heap.size lr er w' h1 h2 hlo.1
        have hk1 := rdText_bd lr hlo.2
        have hst2 := hrc.out.trans (rdCells_step hic (lr, er) cs)
        simp only at hst2
        obtain ⟨X1, hX1⟩ : ∃ X, rdText lr er = X := ⟨_, rfl⟩
        rw [hX1] at hT1 hk1 hst2
        obtain ⟨k, l1, er1⟩ := X1
        simp only at hT1 hk1 hst2
        have hT2 := fun (w' : World) (h1 : Rd w' g w1.heap.size l1 er1) (h2 : w1.heap.size ≤ w'.heap.size) => rtext_any g w1.heap.size l1 er1 w' h1 h2 (by omega)
        have hk2 := rdText_bd l1 hk1.2.2
        obtain ⟨X2, hX2⟩ : ∃ X, rdText l1 er1 = X := ⟨_, rfl⟩
        rw [hX2] at hT2 hk2 hst2
        obtain ⟨v, l2, er2⟩ := X2
        simp only at hT2 hk2 hst2
        have HT1 := Lib.hid hT1
        have HT2 := Lib.hid hT2
        have HRC := Lib.hid hst2
        have HST := Lib.hid hst
        obtain ⟨A0, k0, c0, rfl⟩ := own_slice hst.own
        obtain rfl := own_len hst.own
        have HF := Lib.hid hst.few
        have HLB : Hid (w1.heap.size ≤ wr.heap.size) := hst.room
        have p2 : wr.cell? ⟨w4.heap.size, 2, none⟩ = some (.slice A0 cs.length c0) := hst.page.cell 2
        have hgne : ¬ g = w4.heap.size := hgp
        have hgne2 : (some g : Option Nat) ≠ some w4.heap.size := by simpa using hgp
        clear hT1 hT2 hst2 hst hrc hX1 hX2
        go_wp2_with fail
        go_region_law (first
          | (go_simp; go_at_call 91; refine (HT2.out _ (by exact hr1) (by exact hBa)).mono ?_; rintro e wb ⟨rfl, hr2, hg2⟩; have hg2' : wa.grownBy wb (some g) := ⟨hg2.os, hg2.tape, hg2.output, hg2.size, hg2.block⟩; have hpb := hpa.grown hg2' hgne2; have pb2 : wb.cell? ⟨w4.heap.size, 2, none⟩ = some (.slice A0 cs.length c0) := hpb.cell 2; have hpx := hpb.alloc (.cells #[.string (st k), .string (st v)] 81); have px2 : (wb.alloc (.cells #[.string (st k), .string (st v)] 81)).cell? ⟨w4.heap.size, 2, none⟩ = some (.slice A0 cs.length c0) := hpx.cell 2; have hob := hoa.beside hr1 hg2')
          | (go_simp; go_at_call 91; refine (HT1.out _ (by exact HST.out.rd) (by exact HLB.out)).mono ?_; rintro e wa ⟨rfl, hr1, hg1⟩; have hg1' : wr.grownBy wa (some g) := ⟨hg1.os, hg1.tape, hg1.output, hg1.size, hg1.block⟩; have hpa := HST.out.page.grown hg1' hgne2; have pa2 : wa.cell? ⟨w4.heap.size, 2, none⟩ = some (.slice A0 cs.length c0) := hpa.cell 2; have hoa := HST.out.own.beside HST.out.rd hg1'; have hBa : w1.heap.size ≤ wa.heap.size := Nat.le_trans HLB.out hg1'.size)
          | (refine step_append_cl (wb.alloc (.cells #[.string (st k), .string (st v)] 81)) (by first | exact ⟨0, rfl⟩ | exact ⟨1, rfl⟩ | exact ⟨2, rfl⟩ | exact ⟨3, rfl⟩ | exact ⟨4, rfl⟩) rfl (.tmp 31) (.tmp 37) elemCel rfl (World.ownsRow.alloc hob _) (Sl.newcel (S := fun _ => True) _ (k, v) rfl trivial) rfl rfl (ccs_one _) (by simp only [maxLen]; omega) (by omega) ((Nat.le_trans HST.out.below.size (Nat.le_trans hg1'.size (Nat.le_trans hg2'.size (by simp))))) ?_; intro A5 k5 c5 w5 hown5 hg5; have hp5 := hpx.kept (World.ownsRow.alloc hob _) hg5 (by decide); have p5 : w5.cell? ⟨w4.heap.size, 2, none⟩ = some (.slice A0 cs.length c0) := hp5.cell 2; have f5 := hp5.free 2; have hr5 := (hr2.later ((Below.refl _ _).alloc (Nat.le_refl _) (.cells #[.string (st k), .string (st v)] 81))).keptCo (World.ownsRow.alloc hob _) hg5))
        all_goals
          go_wp2_with fail
          go_roundw
          case rel =>
            obtain rfl : k5 = cs.length + 1 := own_len hown5
            have hown6 : Co w5 W.heap.size (.slice A5 (cs.length + 1) c5) (cs ++ [(k, v)]) := by
              unfold Co
              rw [ccs_append, show (cs ++ [(k, v)]).length = cs.length + 1 by simp]
              exact hown5
            have hq5 : Below W.heap.size W w5 := below_grown_own ((((HST.out.below).trans (grown_below hg1' hgW HST.out.below.size)).trans (grown_below hg2' hgW (Nat.le_trans HST.out.below.size hg1'.size))).alloc (Nat.le_trans HST.out.below.size (Nat.le_trans hg1'.size hg2'.size)) (.cells #[.string (st k), .string (st v)] 81)) (World.ownsRow.alloc hob _) hg5 (Nat.le_trans HST.out.below.size (Nat.le_trans hg1'.size (Nat.le_trans hg2'.size (by simp))))
            refine ⟨cs.length + 1, _, cs ++ [(k, v)], l2, er2, by go_num, by omega, by simp, ⟨hp5.put 2 _, own_set hown6 hp5 (by decide) 2 _, hr5.far hp5 (by decide) (by decide) 2 _, hq5.setCell hgp4 _, by have h1 := hg2'.size; have h2 := hg5.size; simp at h2 ⊢; omega, ⟨by simp; omega, fun x hx => ?_⟩, ⟨by omega, hk2.2.2⟩⟩, HRC.out⟩
            rcases List.mem_append.1 hx with h | h
            · exact HF.out.2 x h
            · simp at h
              subst h
              exact ⟨hk1.1, hk2.1⟩
          case measure => simp [intOf]; omega
      · obtain rfl : i = c := by omega
        have HE0 : Hid (pgOfB l = if rdEnd lr er = 0 ∧ pgChk (n : Int) cs = 0 then some (b, n, cs) else none) := by
          have h := hrc.out
          rw [Nat.sub_self, rdCells] at h
          rw [Hid, HPG.out, h]
        have HST := Lib.hid hst
        obtain ⟨A0, k0, c0, rfl⟩ := own_slice hst.own
        obtain rfl := own_len hst.own
        have qr := q0.trans (hst.below.mono q0.size)
        have hbr := HB0.out.later hst.below
        have g0 : wr.cell? ⟨w4.heap.size, 0, none⟩ = some (.bool b) := hst.page.cell 0
        have g1 : wr.cell? ⟨w4.heap.size, 1, none⟩ = some (.int .i64 (n : Int)) := hst.page.cell 1
        have g2 : wr.cell? ⟨w4.heap.size, 2, none⟩ = some (.slice A0 cs.length c0) := hst.page.cell 2
        have hlo := hst.lens
        clear hst hrc HPG hlen
        go_wp2_with fail
        refine (end_rd g w1.heap.size lr er wr HST.out.rd hlo.1).mono ?_
        rintro e w7 ⟨rfl, rfl⟩
        by_cases hE : rdEnd lr er = 0
        · rw [hE]
          have HE := Lib.hid hE
          clear hE
          go_wp2_with fail
          refine (pcheck_any _ b (n : Int) _ cs wr (by omega) ⟨by have := HST.out.few.1; omega, HST.out.few.2⟩ HST.out.own.cs).mono ?_
          rintro e w8 ⟨rfl, hbl8⟩
          have q8 := qr.trans (hbl8.mono qr.size)
          have hb8 := hbr.later hbl8
          have r0 : w8.cell? ⟨w.heap.size, 0, none⟩ = some (.bool false) := hb8.cell 0
          have r1 : w8.cell? ⟨w.heap.size, 1, none⟩ = some (.int .i64 0) := hb8.cell 1
          have r2 : w8.cell? ⟨w.heap.size, 2, none⟩ = some (.slice none 0 0) := hb8.cell 2
          have rf0 := hb8.free 0
          have rf1 := hb8.free 1
          have rf2 := hb8.free 2
          have h0 := cell_later hbl8 g0
          have h1 := cell_later hbl8 g1
          have h2 := cell_later hbl8 g2
          by_cases hC : pgChk (n : Int) cs = 0
          · rw [hC]
            have HY : Hid (pgOfB l = some (b, n, cs)) := by rw [Hid, HE0.out, if_pos ⟨HE.out, hC⟩]
            clear hC HE0
            go_wp2_with fail
            refine bodyPost_ret (results_cell2 rfl _ _ w.heap.size rfl (hb8.put3 _ _ _) pageTy) rfl ⟨fun b' n' cs' h => ?_, fun h => (by rw [HY.out] at h; cases h), below_put3 q8 (Nat.le_refl _) _ _ _⟩
            rw [HY.out] at h
            injection h with h
            injection h with h1 h
            injection h with h2 h3
            subst h1 h2 h3
            exact ⟨_, rfl, A0, c0, rfl, Cs.put3 (L := W.heap.size) (Sl.below HST.out.own.cs hbl8 (fun _ h => h.2)) (fun x h => ⟨h.1, Nat.lt_of_lt_of_le h.2 hbl8.size⟩) hWs q0.size _ _ _⟩
          · have HN : Hid (pgOfB l = none) := by rw [Hid, HE0.out, if_neg (fun h => hC h.2)]
            have t1 : ((pgChk (n : Int) cs : Int) != 0) = true := by rw [bne_iff_ne]; omega
            generalize pgChk (n : Int) cs = P at *
            clear hC HE0
            go_wp2_with fail
            exact bodyPost_ret (results_cell2 rfl _ _ w.heap.size rfl (hb8.put3 _ _ _) pageTy) rfl ⟨fun b n cs h => (by rw [HN.out] at h; cases h), fun _ => rfl, below_put3 q8 (Nat.le_refl _) _ _ _⟩
        · have HN : Hid (pgOfB l = none) := by rw [Hid, HE0.out, if_neg (fun h => hE h.1)]
          have t1 : ((rdEnd lr er : Int) != 0) = true := by rw [bne_iff_ne]; omega
          have r0 : wr.cell? ⟨w.heap.size, 0, none⟩ = some (.bool false) := hbr.cell 0
          have r1 : wr.cell? ⟨w.heap.size, 1, none⟩ = some (.int .i64 0) := hbr.cell 1
          have r2 : wr.cell? ⟨w.heap.size, 2, none⟩ = some (.slice none 0 0) := hbr.cell 2
          have rf0 := hbr.free 0
          have rf1 := hbr.free 1
          have rf2 := hbr.free 2
          generalize rdEnd lr er = P at *
          clear hE HE0
          go_wp2_with fail
          exact bodyPost_ret (results_cell2 rfl _ _ w.heap.size rfl (hbr.put3 _ _ _) pageTy) rfl ⟨fun b n cs h => (by rw [HN.out] at h; cases h), fun _ => rfl, below_put3 qr (Nat.le_refl _) _ _ _⟩
end Go.Proofs.YthbhkdhljlganaaGreatDoor

namespace Go.Proofs.YthbhkdhljlganaaGreatDoor
open Go Go.RowKit
set_option linter.unusedVariables false

end Go.Proofs.YthbhkdhljlganaaGreatDoor

namespace Go.Proofs.YthbhkdhljlganaaGreatDoor
open Go Go.RowKit
set_option linter.unusedVariables false

theorem rdFlag_put (b : Bool) (s : List UInt8) : rdFlag (flagB b ++ s) 0 = (b, s, 0) := by
  unfold rdFlag flagB
  rw [if_neg (by simp)]
  cases b <;> rfl
theorem rdCount_put {x : Nat} (hx : x < U64) {m : Nat} (hm : x ≤ m) (s : List UInt8) : rdCount (varB x ++ s) 0 (m : Int) = (x, s, 0) := by
  unfold rdCount
  rw [if_neg (by simp), getVarB_varB hx]
  simp only [List.drop_left]
  rw [if_neg (by omega)]
theorem rdCells_put : ∀ (cs : List Cel) (s : List UInt8) (acc : List Cel), (∀ c ∈ cs, c.1.length ≤ 65536 ∧ c.2.length ≤ 65536) → rdCells cs.length (cs.flatMap celB ++ s, 0) acc = (acc ++ cs, (s, 0))
  | [], s, acc, _ => by simp [rdCells]
  | c :: cs, s, acc, h => by
    have hc := h c (by simp)
    have e : (c :: cs).flatMap celB ++ s = varB c.1.length ++ (c.1 ++ (varB c.2.length ++ (c.2 ++ (cs.flatMap celB ++ s)))) := by
      simp [celB, textB]
    rw [List.length_cons, rdCells, e]
    simp only
    rw [rdText_put hc.1]
    simp only
    rw [rdText_put hc.2]
    simp only
    rw [rdCells_put cs s _ (fun x hx => h x (by simp [hx]))]
    simp
theorem openB_sealB (f : List UInt8) : openB (sealB f) = .ok f := by
  have e : (sealB f).take ((sealB f).length - 4) = f := by
    rw [sealB_len, Nat.add_sub_cancel]
    unfold sealB
    rw [List.take_left]
  unfold openB
  rw [if_neg (by rw [sealB_len]; omega), e]
  exact if_pos rfl
theorem chk_small : ∀ (p : Option (List UInt8)) (cs : List Cel), chk p cs = 0 → ∀ c ∈ cs, c.1.length + c.2.length ≤ 480
  | p, [], _, c, hc => by cases hc
  | p, x :: xs, h, c, hc => by
    rw [chk] at h
    split at h
    · cases h
    · split at h
      · cases h
      · rcases List.mem_cons.1 hc with rfl | hc
        · omega
        · exact chk_small _ xs h c hc
theorem pgChk_cells {n : Int} {cs : List Cel} (h : pgChk n cs = 0) : chk none cs = 0 := by
  unfold pgChk at h
  split at h
  · cases h
  · split at h
    · rename_i h2; exact absurd h h2
    · rename_i h2; simpa using h2
/-- A page's bytes are the page again. -/
theorem pgOfB_bytes {b : Bool} {n : Nat} {cs : List Cel} (h : pgChk (n : Int) cs = 0) : pgOfB (sealB (pgF b (n : Int) cs)) = some (b, n, cs) := by
  have hsm := chk_small none cs (pgChk_cells h)
  obtain ⟨_, h256, hsz⟩ := pgChk_ok h
  have hn : n ≤ 256 := by omega
  have hlen : cs.length ≤ 2048 := by
    have h2 : cs.length ≤ celsN cs := by
      clear h hsz hsm
      induction cs with
      | nil => simp [celsN]
      | cons c cs ih =>
        have e : celsN (c :: cs) = (celB c).length + celsN cs := by simp [celsN]
        have h1 : 1 ≤ (celB c).length := by
          unfold celB textB
          have := varB_len c.1.length
          simp only [List.length_append]
          omega
        rw [e, List.length_cons]
        omega
    unfold pgSz at hsz
    omega
  unfold pgOfB
  rw [openB_sealB]
  simp only
  unfold pgIn
  have e : pgF b (n : Int) cs = flagB b ++ (varB n ++ (varB cs.length ++ (cs.flatMap celB ++ []))) := by
    unfold pgF flagB
    rw [List.append_nil]
    rfl
  rw [e, rdFlag_put]
  simp only
  rw [show (256 : Int) = ((256 : Nat) : Int) from rfl, rdCount_put (by unfold U64; omega) hn]
  simp only
  rw [show (2048 : Int) = ((2048 : Nat) : Int) from rfl, rdCount_put (by unfold U64; omega) hlen]
  simp only
  rw [rdCells_put cs [] [] (fun c hc => by have := hsm c hc; omega)]
  simp only [List.nil_append]
  rw [if_pos ⟨by simp [rdEnd], h⟩]

end Go.Proofs.YthbhkdhljlganaaGreatDoor

namespace Go.Proofs.YthbhkdhljlganaaGreatDoor
open Go Go.RowKit
set_option linter.unusedVariables false

theorem chk_take : ∀ (p : Option (List UInt8)) (cs : List Cel) (k : Nat), chk p cs = 0 → chk p (cs.take k) = 0
  | p, cs, 0, _ => by simp [chk]
  | p, [], k + 1, _ => by simp [chk]
  | p, c :: cs, k + 1, h => by
    rw [chk] at h
    rw [List.take_succ_cons, chk]
    split at h
    · cases h
    · rename_i h1
      rw [if_neg h1]
      split at h
      · cases h
      · rename_i h2
        rw [if_neg h2]
        exact chk_take _ cs k h
theorem chk_none {p : Option (List UInt8)} : ∀ {cs : List Cel}, chk p cs = 0 → chk none cs = 0
  | [], _ => by simp [chk]
  | c :: cs, h => by
    rw [chk] at h ⊢
    split at h
    · cases h
    · rename_i h1
      rw [if_neg h1, if_neg (by simp [sunk])]
      split at h
      · cases h
      · exact h
theorem chk_dropk : ∀ (p : Option (List UInt8)) (cs : List Cel) (k : Nat), chk p cs = 0 → chk none (cs.drop k) = 0
  | p, cs, 0, h => by rw [List.drop_zero]; exact chk_none h
  | p, [], k + 1, _ => by simp [chk]
  | p, c :: cs, k + 1, h => by
    rw [chk] at h
    rw [List.drop_succ_cons]
    split at h
    · cases h
    · split at h
      · cases h
      · exact chk_dropk _ cs k h
theorem chk_rises : ∀ (p : Option (List UInt8)) (cs : List Cel), chk p cs = 0 → RisesP cs
  | p, [], _ => by intro i hi; simp at hi
  | p, c :: cs, h => by
    rw [chk] at h
    split at h
    · cases h
    · split at h
      · cases h
      · intro i hi
        rcases i with _ | i
        · rcases cs with _ | ⟨d, ds⟩
          · simp at hi
          · rw [chk] at h
            split at h
            · cases h
            · split at h
              · cases h
              · rename_i h2
                simpa [sunk] using h2
        · have ih := chk_rises _ cs h i (by simpa using hi)
          simpa using ih
theorem varB_short {x : Nat} (h : x < 16384) : (varB x).length ≤ 2 := varB_le 1 x h
theorem celB_small {c : Cel} (h : c.1.length + c.2.length ≤ 480) : (celB c).length ≤ 484 := by
  unfold celB textB
  have h1 := varB_short (x := c.1.length) (by omega)
  have h2 := varB_short (x := c.2.length) (by omega)
  simp only [List.length_append]
  omega
theorem varB_one {x : Nat} (h : x < 128) : (varB x).length = 1 := by rw [varB_lo h]; rfl
theorem pgSz_few {next : Int} {cs : List Cel} (hn : next ≤ 256) (hf : cs.length ≤ 100) : pgSz next cs ≤ celsN cs + 8 ∧ celsN cs + 7 ≤ pgSz next cs := by
  unfold pgSz
  have h1 := varB_short (x := next.toNat) (by omega)
  have h2 := varB_len next.toNat
  have h3 := varB_one (x := cs.length) (by omega)
  omega
theorem pgChk_of {next : Int} {cs : List Cel} (h0 : 0 ≤ next) (h1 : next ≤ 256) (hc : chk none cs = 0) (hs : pgSz next cs ≤ 2048) : pgChk next cs = 0 := by
  unfold pgChk
  rw [if_neg (by omega), hc, if_neg (by simp), if_neg (by omega)]
theorem halves {next : Int} {cs : List Cel} {k : Nat} (hf : cs.length ≤ 100) (hc : pgChk next cs = 0) (hk : HalfAt cs k) :
    pgChk next (cs.take k) = 0 ∧ pgChk next (cs.drop k) = 0 ∧ pgSz next (cs.take k) + 490 ≤ 2048 ∧ pgSz next (cs.drop k) + 490 ≤ 2048 := by
  obtain ⟨h0, h1, hs⟩ := pgChk_ok hc
  have hch := pgChk_cells hc
  have hsm := chk_small none cs hch
  have z0 := pgSz_few (next := next) (cs := cs) h1 hf
  have za := pgSz_few (next := next) (cs := cs.take k) h1 (by rw [List.length_take]; omega)
  have zb := pgSz_few (next := next) (cs := cs.drop k) h1 (by rw [List.length_drop]; omega)
  have hsum : celsN cs = celsN (cs.take k) + celsN (cs.drop k) := by rw [← celsN_append, List.take_append_drop]
  have hlo := hk.lo
  have hhi := hk.hi
  obtain ⟨j, rfl⟩ : ∃ j, k = j + 1 := ⟨k - 1, by omega⟩
  have hj : j < cs.length := by omega
  have hstep := celsN_take_succ (cs := cs) hj
  have hcj := celB_small (hsm _ (List.getElem_mem hj))
  have ha : celsN (cs.take (j + 1)) ≤ 1504 := by
    rcases Nat.eq_zero_or_pos j with h | h
    · subst h
      rw [hstep]
      have : celsN (cs.take 0) = 0 := rfl
      omega
    · have := hk.less j h (by omega)
      omega
  have hb : celsN (cs.drop (j + 1)) ≤ 1021 := by
    rcases hk.stop with h | h
    · have e : cs.drop (j + 1) = [cs[j + 1]'(by omega)] ∨ cs.drop (j + 1) = [] := by
        rcases Nat.lt_or_ge (j + 1) cs.length with h2 | h2
        · left
          rw [List.drop_eq_getElem_cons h2, List.drop_eq_nil_of_le (by omega)]
        · right; exact List.drop_eq_nil_of_le (by omega)
      rcases e with e | e
      · rw [e, celsN_one]
        have := celB_small (hsm _ (List.getElem_mem (show j + 1 < cs.length by omega)))
        omega
      · rw [e]; simp [celsN]
    · omega
  exact ⟨pgChk_of h0 h1 (chk_take _ _ _ hch) (by omega), pgChk_of h0 h1 (chk_dropk _ _ _ hch) (by omega), by omega, by omega⟩
end Go.Proofs.YthbhkdhljlganaaGreatDoor

namespace Go.Proofs.YthbhkdhljlganaaGreatDoor
open Go
set_option linter.unusedVariables false

/-- One key is ahead of another one. -/
def Lt (a b : List UInt8) : Prop := cmpB a b < 0
theorem Lt.trans {a b c : List UInt8} (h : Lt a b) (h' : Lt b c) : Lt a c := cmpB_trans a b c h h'
theorem Lt.irrefl {a : List UInt8} (h : Lt a a) : False := by unfold Lt at h; rw [cmpB_self] at h; omega
theorem less_iff {a b : List UInt8} : Op.bytesLess a b = true ↔ Lt a b := by rw [cmpB_less, decide_eq_true_eq]; rfl
theorem less_not {a b : List UInt8} : Op.bytesLess a b = false ↔ ¬ Lt a b := by rw [cmpB_less, decide_eq_false_iff_not]; rfl
theorem lt_or {a b : List UInt8} : Lt a b ∨ a = b ∨ Lt b a := by
  have h1 := cmpB_rng a b
  have h2 := cmpB_anti a b
  rcases h1 with h | h | h
  · exact .inl (by unfold Lt; omega)
  · exact .inr (.inl (cmpB_eq _ _ h))
  · exact .inr (.inr (by unfold Lt; omega))
theorem Lt.not {a b : List UInt8} (h : Lt a b) : ¬ Lt b a := fun h' => (h.trans h').irrefl
/-- The keys rise, each below all behind it. -/
def Asc (cs : List Cel) : Prop := cs.Pairwise fun a b => Lt a.1 b.1
theorem RisesP.asc {cs : List Cel} (h : RisesP cs) : Asc cs := by
  unfold Asc
  rw [List.pairwise_iff_getElem]
  intro i j hi hj hij
  exact rises_lt' h hij hj
theorem Asc.rises {cs : List Cel} (h : Asc cs) : RisesP cs := fun i hi => by
  unfold Asc at h
  rw [List.pairwise_iff_getElem] at h
  exact less_iff.2 (h i (i + 1) (by omega) hi (by omega))
section
variable {cs : List Cel} {k : List UInt8}
theorem take_lt {c : Cel} (h : c ∈ cs.take (findK cs k)) : Lt c.1 k := by
  obtain ⟨i, hi, rfl⟩ := List.mem_iff_getElem.1 h
  rw [List.length_take] at hi
  rw [List.getElem_take]
  exact less_iff.1 (findK_lt (by omega))
theorem drop_ge (ha : Asc cs) {c : Cel} (h : c ∈ cs.drop (findK cs k)) : ¬ Lt c.1 k := by
  obtain ⟨i, hi, rfl⟩ := List.mem_iff_getElem.1 h
  rw [List.length_drop] at hi
  rw [List.getElem_drop]
  have := findK_iff ha.rises k (i := findK cs k + i) (by omega)
  rw [decide_eq_true (by omega)] at this
  rw [← less_not]
  simpa using this
/-- Where the key is there: what stands there has it. -/
theorem isK_at (h : isK cs k = true) : ∃ v, cs[findK cs k]? = some (k, v) := by
  unfold isK at h
  cases hx : cs[findK cs k]? with
  | none => rw [hx] at h; cases h
  | some x =>
    rw [hx] at h
    exact ⟨x.2, by rw [← eq_of_beq h]⟩
theorem isK_no (h : isK cs k = false) {x : Cel} (hx : cs[findK cs k]? = some x) : x.1 ≠ k := by
  unfold isK at h
  rw [hx] at h
  intro e
  simp [e] at h
theorem isK_lt (h : isK cs k = true) : findK cs k < cs.length := by
  obtain ⟨v, hv⟩ := isK_at h
  exact (List.getElem?_eq_some_iff.1 hv).1
/-- How many cells make room. -/
def hadN (cs : List Cel) (k : List UInt8) : Nat := if isK cs k then 1 else 0
end
/-- A cell put: ahead of those of greater keys, in the place of one of its key. -/
def putC (cs : List Cel) (c : Cel) : List Cel := cs.take (findK cs c.1) ++ c :: cs.drop (findK cs c.1 + hadN cs c.1)
/-- A key taken out (where it is there). -/
def delC (cs : List Cel) (k : List UInt8) : List Cel := cs.take (findK cs k) ++ cs.drop (findK cs k + hadN cs k)
section
variable {cs : List Cel} {k : List UInt8} {c : Cel}
theorem hadN_le (cs : List Cel) (k : List UInt8) : findK cs k + hadN cs k ≤ cs.length := by
  unfold hadN
  have h1 := findK_le cs k
  cases h : isK cs k with
  | true => have := isK_lt h; simp; omega
  | false => simp; omega
theorem putC_len (cs : List Cel) (c : Cel) : (putC cs c).length + hadN cs c.1 = cs.length + 1 := by
  have := hadN_le cs c.1
  unfold putC
  rw [List.length_append, List.length_cons, List.length_take, List.length_drop]
  omega
end
theorem putC_yes {cs : List Cel} {c : Cel} (h : isK cs c.1 = true) : putC cs c = cs.set (findK cs c.1) c := by
  rw [List.set_eq_take_append_cons_drop, if_pos (isK_lt h)]
  unfold putC hadN
  rw [h]
  rfl
theorem putC_no {cs : List Cel} {c : Cel} (h : isK cs c.1 = false) : putC cs c = cs.take (findK cs c.1) ++ c :: cs.drop (findK cs c.1) := by
  unfold putC hadN
  rw [h]
  rfl
theorem delC_yes {cs : List Cel} {k : List UInt8} (h : isK cs k = true) : delC cs k = cs.take (findK cs k) ++ cs.drop (findK cs k + 1) := by
  unfold delC hadN
  rw [h]
  rfl
section
variable {cs : List Cel} {c : Cel} {i : Nat}
end
end Go.Proofs.YthbhkdhljlganaaGreatDoor

namespace Go.Proofs.YthbhkdhljlganaaGreatDoor
open Go Go.RowKit Go.WideShapes
open Go.Maps (Keyed)
set_option linter.unusedVariables false
set_option linter.unusedSectionVars false

/-- How an element reads: as itself. -/
def heldR (v : Value) : Option (DataW Value × List MemPlace) := some (.held v, [])
/-- A number that an int may be. -/
def InI (a : Int) : Prop := -9223372036854775808 ≤ a ∧ a ≤ 9223372036854775807
theorem InI.wf {a : Int} (h : InI a) : (Lit.int .i64 a).wf = true := by
  unfold InI at h
  simp only [Lit.wf, Bool.and_eq_true, decide_eq_true_eq]
  exact h
theorem InI.of {a : Int} (h : (Lit.int .i64 a).wf = true) : InI a := by
  simp only [Lit.wf, Bool.and_eq_true, decide_eq_true_eq] at h
  exact h

/-- How many keys there are when one more is put; taken out. -/
def nPut (f : Int → Option Value) (n : Nat) (a : Int) : Nat := if (f a).isSome then n else n + 1
def nDel (f : Int → Option Value) (n : Nat) (a : Int) : Nat := if (f a).isSome then n - 1 else n

section
variable {P : Program} {k : TypeId} {w w' : World} {b n : Nat} {f : Int → Option Value}

/-- Block b is a map from ints: at key a stands f a; n keys in all. -/
def MpV (P : Program) (k : TypeId) (w : World) (b : Nat) (f : Int → Option Value) (n : Nat) : Prop :=
  ∃ D : DataW Value, w.ownsMap P k heldR b n D ∧ Maps.size D = n ∧ ∀ a, InI a → Maps.has D (.int .i64 a) = (f a).isSome ∧ ∀ v, f a = some v → ∀ z, D.atKey (.int .i64 a) z = .held v

theorem own_tight {m : Nat} {D : DataW Value} (h : w.ownsMap P k heldR b m D) : w.ownsMap P k heldR b (Maps.size D) D := by
  obtain ⟨es, clock, hb, F, hs, hD⟩ := h
  have e1 : Maps.size D = es.size := by rw [hD]; simp [Maps.size, length_sorted]
  exact ⟨es, clock, hb, F, by rw [e1]; exact Nat.le_refl _, hD⟩
theorem MpV.lt (h : MpV P k w b f n) : b < w.heap.size := by obtain ⟨D, h1, _⟩ := h; exact h1.lt
theorem MpV.isMap (h : MpV P k w b f n) : ∃ es clock, w.heap[b]? = some (.map es clock) := by
  obtain ⟨D, ⟨es, clock, hb, _⟩, _⟩ := h
  exact ⟨es, clock, hb⟩
theorem MpV.at (h : MpV P k w b f n) (hb : w'.heap[b]? = w.heap[b]?) : MpV P k w' b f n := by
  obtain ⟨D, ⟨es, clock, hb0, F, hs, hD⟩, h2, h3⟩ := h
  exact ⟨D, ⟨es, clock, hb.trans hb0, F, hs, hD⟩, h2, h3⟩
theorem MpV.later (h : MpV P k w b f n) (hb : Below w.heap.size w w') : MpV P k w' b f n := h.at (hb.block b h.lt)
theorem MpV.drew (h : MpV P k w b f n) : MpV P k w.drew b f n := h
theorem MpV.made (P : Program) (k : TypeId) (w : World) : MpV P k (w.alloc (.map #[] 0)) w.heap.size (fun _ => none) 0 :=
  ⟨.map [], World.ownsMap_made w P k heldR, rfl, fun a _ => ⟨rfl, fun v h => by cases h⟩⟩

variable (hk : P.underlying k = some (.int .i64))
include hk
theorem key_mk {a : Int} (ha : InI a) : keyOf P k (.int .i64 a) = some (.int .i64 a) := Maps.keyOf_int_mk hk ha.wf

theorem MpV.atv (h : MpV P k w b f n) {D : DataW Value} {a : Int} (ha : InI a) {v z : Value} (h3 : Maps.has D (.int .i64 a) = (f a).isSome ∧ ∀ v, f a = some v → ∀ z, D.atKey (.int .i64 a) z = .held v)
    (hv : DataW.held v = D.atKey (.int .i64 a) (.held z)) : v = (f a).getD z := by
  cases hf : f a with
  | some u =>
    rw [h3.2 u hf] at hv
    injection hv
  | none =>
    have h0 : Maps.has D (.int .i64 a) = false := by rw [h3.1, hf]; rfl
    rw [Maps.atKey_of_not_has h0] at hv
    injection hv
/-- 'v, ok := m[a]'. -/
theorem MpV.look {t e : TypeId} (h : MpV P k w b f n) (ht : P.underlying t = some (.map k e)) {z : Value} (hz : (zeroValue e).run P w = .ok z w) {a : Int} (ha : InI a) :
    (Instr.lookup t (.map (some b)) (.int .i64 a) true).run P w = .ok (.tuple #[(f a).getD z, .bool (f a).isSome]) w := by
  have h0 := h
  obtain ⟨D, h1, h2, h3⟩ := h
  obtain ⟨v, ps, hrun, hv⟩ := h1.look_ok (Maps.int_keyed hk) ht hz (zd := .held z) (zp := []) rfl (key_mk hk ha)
  simp only [heldR, Option.some.injEq, Prod.mk.injEq] at hv
  rw [hrun, h0.atv hk ha (h3 a ha) hv.1, (h3 a ha).1]
/-- 'm[a]'. -/
theorem MpV.look1 {t e : TypeId} (h : MpV P k w b f n) (ht : P.underlying t = some (.map k e)) {z : Value} (hz : (zeroValue e).run P w = .ok z w) {a : Int} (ha : InI a) :
    (Instr.lookup t (.map (some b)) (.int .i64 a) false).run P w = .ok ((f a).getD z) w := by
  have h0 := h
  obtain ⟨D, h1, h2, h3⟩ := h
  obtain ⟨v, ps, hrun, hv⟩ := h1.lookup (Maps.int_keyed hk) ht hz (zd := .held z) (zp := []) rfl (key_mk hk ha)
  simp only [heldR, Option.some.injEq, Prod.mk.injEq] at hv
  rw [hrun, h0.atv hk ha (h3 a ha) hv.1]
/-- 'len(m)'. -/
theorem MpV.len {t e : TypeId} (h : MpV P k w b f n) (ht : P.underlying t = some (.map k e)) (ty : TypeId) : (Builtin.len_ #[t] ty #[.map (some b)]).run P w = .ok (.int .i64 (n : Int)) w := by
  obtain ⟨D, h1, h2, h3⟩ := h
  rw [h1.len ht ty, h2]
/-- 'm[a] = v'. -/
theorem MpV.put {t e : TypeId} (h : MpV P k w b f n) (ht : P.underlying t = some (.map k e)) (hn : n < maxLen) {a : Int} (ha : InI a) (v : Value) :
    ∃ w', (Instr.mapUpdate t (.map (some b)) (.int .i64 a) v).run P w = .ok () w' ∧ MpV P k w' b (fun x => if x = a then some v else f x) (nPut f n a) ∧ w.mapTurned w' b := by
  obtain ⟨D, h1, h2, h3⟩ := h
  have K := Maps.int_keyed hk
  have ht' := h1.tidy K
  have hkl : WideAt.IsKeyLit (.int .i64 a) := K.key (key_mk hk ha)
  obtain ⟨w', hrun, h1', hturn⟩ := h1.store K ht hn (key_mk hk ha) (d := .held v) (ps := []) rfl
  have hsz : Maps.size (D.put (.int .i64 a) (.held v)) = nPut f n a := by
    rw [Maps.size_put ht', (h3 a ha).1, h2]
    unfold nPut
    cases f a <;> rfl
  refine ⟨w', hrun, ⟨_, by rw [← hsz]; exact own_tight h1', hsz, fun x hx => ?_⟩, hturn⟩
  by_cases hxa : x = a
  · subst hxa
    refine ⟨by rw [Maps.has_put_same ht'.isMap hkl]; simp, fun u hu z => ?_⟩
    simp only [if_true, Option.some.injEq] at hu
    subst hu
    exact Maps.atKey_put_same ht'.isMap hkl _ _
  · have hne : Lit.int .i64 x ≠ .int .i64 a := fun e => hxa (by injection e)
    refine ⟨by rw [Maps.has_put_other hne, (h3 x hx).1]; simp only [hxa, if_false], fun u hu z => ?_⟩
    simp only [hxa, if_false] at hu
    rw [Maps.atKey_put_other hne]
    exact (h3 x hx).2 u hu z
/-- 'delete(m, a)'. -/
theorem MpV.del {t e : TypeId} (h : MpV P k w b f n) (ht : P.underlying t = some (.map k e)) {a : Int} (ha : InI a) (ty : TypeId) :
    ∃ w', (Builtin.delete_ #[t, k] ty #[.map (some b), .int .i64 a]).run P w = .ok (.tuple #[]) w' ∧ MpV P k w' b (fun x => if x = a then none else f x) (nDel f n a) ∧ w.mapTurned w' b := by
  obtain ⟨D, h1, h2, h3⟩ := h
  have K := Maps.int_keyed hk
  have ht' := h1.tidy K
  obtain ⟨w', hrun, h1', hturn⟩ := h1.drop K ht (key_mk hk ha) ty
  have hsz : Maps.size (D.del (.int .i64 a)) = nDel f n a := by
    have := Maps.size_del (k := .int .i64 a) ht'
    rw [(h3 a ha).1, h2] at this
    unfold nDel
    cases hf : f a with
    | none => rw [hf] at this; simpa using this
    | some u =>
      rw [hf] at this
      simp only [Option.isSome_some, if_true] at this ⊢
      omega
  refine ⟨w', hrun, ⟨_, by rw [← hsz]; exact own_tight h1', hsz, fun x hx => ?_⟩, hturn⟩
  by_cases hxa : x = a
  · subst hxa
    exact ⟨by rw [Maps.has_del_same]; simp, fun u hu z => by simp at hu⟩
  · have hne : Lit.int .i64 x ≠ .int .i64 a := fun e => hxa (by injection e)
    refine ⟨by rw [Maps.has_del_other hne, (h3 x hx).1]; simp only [hxa, if_false], fun u hu z => ?_⟩
    simp only [hxa, if_false] at hu
    rw [Maps.atKey_del_other hne]
    exact (h3 x hx).2 u hu z

omit hk
theorem nodup_sub {α : Type} [BEq α] [LawfulBEq α] : ∀ {l l' : List α}, l.Nodup → (∀ x ∈ l, x ∈ l') → l.length ≤ l'.length
  | [], l', _, _ => Nat.zero_le _
  | x :: r, l', hn, h => by
    rw [List.nodup_cons] at hn
    have hx := h x (by simp)
    have ih := nodup_sub (l := r) (l' := l'.erase x) hn.2 fun y hy => (List.mem_erase_of_ne (by rintro rfl; exact hn.1 hy)).2 (h y (by simp [hy]))
    rw [List.length_erase_of_mem hx] at ih
    have : 0 < l'.length := List.length_pos_of_mem hx
    rw [List.length_cons]
    omega
variable {r cnt : Nat} {left : Int → Bool}
variable {ops : Array Oper} {rest : List Oper} {o : Oper} {a : Act} {Q : Exit → Act → World → Prop}
end
end Go.Proofs.YthbhkdhljlganaaGreatDoor

namespace Go.Proofs.YthbhkdhljlganaaGreatDoor
open Go
set_option linter.unusedVariables false

/-- Sectors: what each one holds that is in use. -/
abbrev SF := Int → Option (List UInt8)
/-- A write, or a free, that wasn't synced. -/
inductive Pnd where
  | wr (at_ : Int) (b : List UInt8)
  | fr (at_ : Int)
structure Dsk where
  size : Int
  limit : Int
  view : SF
  nv : Nat
  ground : SF
  ng : Nat
  pend : List Pnd

def SF.put (f : SF) (a : Int) (b : List UInt8) : SF := fun x => if x = a then some b else f x
def SF.del (f : SF) (a : Int) : SF := fun x => if x = a then none else f x
def SF.nPut (f : SF) (n : Nat) (a : Int) : Nat := if (f a).isSome then n else n + 1
def Dsk.new (n : Int) : Dsk := ⟨n, n, fun _ => none, 0, fun _ => none, 0, []⟩
/-- A list of sectors that holds just what f says, n of them. -/
structure FinL (f : SF) (n : Nat) (l : List (Int × List UInt8)) : Prop where
  nodup : (l.map (·.1)).Nodup
  len : l.length = n
  look : ∀ a, (l.find? fun x => x.1 == a).map (·.2) = f a
theorem FinL.nil : FinL (fun _ => none) 0 [] := ⟨by simp, rfl, fun _ => rfl⟩
end Go.Proofs.YthbhkdhljlganaaGreatDoor

namespace Go.Proofs.YthbhkdhljlganaaGreatDoor
open Go
set_option linter.unusedVariables false

def SecOk (x : Int × List UInt8) : Prop := 0 ≤ x.1 ∧ x.1 < 65536 ∧ x.2.length ≤ 512
/-- Sectors that may be, n of them. -/
def FinK (f : SF) (n : Nat) : Prop := ∃ l, FinL f n l ∧ ∀ x ∈ l, SecOk x
theorem FinK.nil : FinK (fun _ => none) 0 := ⟨[], FinL.nil, by simp⟩
theorem FinK.at {f : SF} {n : Nat} (h : FinK f n) {a : Int} {b : List UInt8} (hf : f a = some b) : 0 ≤ a ∧ a < 65536 ∧ b.length ≤ 512 := by
  obtain ⟨l, h1, h2⟩ := h
  rw [← h1.look a] at hf
  cases hfd : l.find? (fun x => x.1 == a) with
  | none => rw [hfd] at hf; cases hf
  | some x =>
    rw [hfd] at hf
    simp only [Option.map_some, Option.some.injEq] at hf
    have h3 := h2 x (List.mem_of_find?_eq_some hfd)
    have h4 := List.find?_some hfd
    simp only [beq_iff_eq] at h4
    subst h4 hf
    exact h3
def PnOk : Pnd → Prop
  | .wr a b => 0 ≤ a ∧ a < 65536 ∧ b.length ≤ 512
  | .fr a => 0 ≤ a ∧ a < 65536
structure Dsk.Ok (D : Dsk) : Prop where
  view : FinK D.view D.nv
  ground : FinK D.ground D.ng
  pend : ∀ p ∈ D.pend, PnOk p
  size : 1 ≤ D.size ∧ D.size ≤ 65536
theorem Dsk.Ok.new {n : Int} (h : 1 ≤ n) (h2 : n ≤ 65536) : (Dsk.new n).Ok := ⟨FinK.nil, FinK.nil, by simp [Dsk.new], ⟨h, h2⟩⟩
end Go.Proofs.YthbhkdhljlganaaGreatDoor

namespace Go.Proofs.YthbhkdhljlganaaGreatDoor
open Go
set_option linter.unusedVariables false

/-- What a sector's bytes tell: a number above 0, and a body. -/
def tellsB (s : List UInt8) : Option (Nat × List UInt8) := match recGet s with
  | some ((q, t), n) => if n = s.length ∧ 0 < q then some (q, t) else none
  | none => none
/-- One sector more is looked at. -/
def mtStep (f : SF) (a : Int) (x : Nat × Int × List UInt8) (i : Int) : Nat × Int × List UInt8 := match f (a + i) with
  | some s => match tellsB s with
    | some (q, t) => if x.1 < q then (q, i, t) else x
    | none => x
  | none => x
def mtOpen (f : SF) (a : Int) : Nat × Int × List UInt8 := mtStep f a (mtStep f a (0, 1, []) 0) 1
def mtErr (x : Nat × Int × List UInt8) : Nat := if x.1 = 0 then 121 else 0

end Go.Proofs.YthbhkdhljlganaaGreatDoor

namespace Go.Proofs.YthbhkdhljlganaaGreatDoor
open Go Go.RowKit
set_option linter.unusedVariables false

/-- The slice value v owns the values xs, of element type e, in a block from B on. -/
def Ow (e : TypeId) (w : World) (B : Nat) (v : Value) (xs : List Value) : Prop := w.ownsRow B e 1 v xs.length xs
section
variable {e : TypeId} {w w' : World} {B : Nat} {v : Value} {xs : List Value}
theorem Ow.made (e : TypeId) (w : World) (B : Nat) (hB : B ≤ w.heap.size) {g : Nat} (hg : g = w.heap.size) : Ow e (w.alloc (.cells #[] e)) B (.slice (some ⟨g, 0, none⟩) 0 0) [] := by
  subst hg
  exact World.ownsRow_made w #[] 0 hB (by simp [maxLen]) (by simp)
theorem Ow.nil (e : TypeId) (w : World) (B : Nat) : Ow e w B (.slice none 0 0) [] := World.ownsRow_nil w B e 1
theorem Ow.later (h : Ow e w B v xs) (hb : Below w.heap.size w w') : Ow e w' B v xs := by
  obtain ⟨h1, h2⟩ := h
  refine ⟨h1, ?_⟩
  rcases h2 with h2 | ⟨g, cap, cur, hv, hg, hh, r⟩
  · exact .inl h2
  · exact .inr ⟨g, cap, cur, hv, hg, (hb.block g (lt_of_block hh)).trans hh, r⟩
theorem Ow.sl (h : Ow e w B v xs) : Sl (fun b => B ≤ b ∧ b < w.heap.size) w 1 v xs.length xs := Sl.of_own (by omega) h
end

/-- Flags as values; pages as values. -/
def bl (l : List Bool) : List Value := l.map .bool
def il (l : List Nat) : List Value := l.map fun (n : Nat) => Value.int .i64 (n : Int)
theorem il_len (l : List Nat) : (il l).length = l.length := by simp [il]
theorem il_one (l : List Nat) : ∀ u ∈ il l, u.oneCell' = true := by
  intro u hu
  obtain ⟨_, _, rfl⟩ := List.mem_map.1 hu
  rfl
end Go.Proofs.YthbhkdhljlganaaGreatDoor

namespace Go.Proofs.YthbhkdhljlganaaGreatDoor
open Go Go.RowKit
set_option linter.unusedVariables false

/-- What kind of block it is: cells of a type, or a map. -/
def kindAt (w : World) (b : Nat) : Option (Option TypeId) := match w.heap[b]? with
  | some (.cells _ t _) => some (some t)
  | some (.map _ _) => some none
  | _ => none
theorem kind_blk {w : World} {g : Nat} {t : TypeId} {cs : Array Value} (h : Blk w g t cs) : kindAt w g = some (some t) := by unfold Blk at h; unfold kindAt; rw [h]
theorem kind_own {w : World} {base : Nat} {e : TypeId} {size n : Nat} {v : Value} {xs : List Value} (h : w.ownsRow base e size v n xs) {b : Nat} (hb : v.ownBlock = some b) : kindAt w b = some (some e) := by
  rcases h.2 with ⟨rfl, _⟩ | ⟨g, cap, cur, rfl, _, hh, _⟩
  · cases hb
  · simp only [Value.ownBlock, Option.some.injEq] at hb
    subst hb
    unfold kindAt
    rw [hh]

section
variable {e : TypeId} {size n : Nat} {w w' : World} {v : Value} {xs : List Value}
end
end Go.Proofs.YthbhkdhljlganaaGreatDoor

namespace Go.Proofs.YthbhkdhljlganaaGreatDoor
open Go Go.RowKit
set_option linter.unusedVariables false

theorem intTy : Tryz.prog.underlying 3 = some (.int .i64) := Tryz.underlying3
theorem secTy : Tryz.prog.underlying 73 = some (.map 3 31) := Tryz.underlying73
theorem nilBytes (w : World) : (zeroValue 31).run Tryz.prog w = .ok (.slice none 0 0) w := by kernel_rfl

theorem kind_map {P : Program} {k : TypeId} {w : World} {b n : Nat} {f : Int → Option Value} (h : MpV P k w b f n) : kindAt w b = some none := by
  obtain ⟨es, c, hb⟩ := h.isMap
  unfold kindAt
  rw [hb]
theorem kind_ub {w : World} {B b : Nat} (h : UbS w B b) : kindAt w b = some (some 5) := by
  obtain ⟨_, cs, fz, hh⟩ := h
  unfold kindAt
  rw [hh]

/-- Bytes stay where only a block of another kind turned. -/
theorem Ub.other {w w' : World} {B : Nat} {v : Value} {l : List UInt8} (h : Ub w B v l) {z : Nat} (hz : kindAt w z ≠ some (some 5)) (hg : w.grownBy w' (some z)) : Ub w' B v l :=
  h.keep fun b hb => hg.block b (by obtain ⟨_, cs, fz, hh⟩ := hb; exact lt_of_block hh) (fun e => by
    injection e with e
    subst e
    exact hz (kind_ub hb))
theorem MpV.other {P : Program} {k : TypeId} {w w' : World} {b n : Nat} {f : Int → Option Value} (h : MpV P k w b f n) {z : Nat} (hz : b ≠ z) (hg : w.grownBy w' (some z)) : MpV P k w' b f n :=
  h.at (hg.block b h.lt (fun e => hz (by injection e)))
theorem Ow.other {e : TypeId} {w w' : World} {B : Nat} {v : Value} {xs : List Value} (h : Ow e w B v xs) {z : Nat} (hz : v.ownBlock ≠ some z) (hg : w.grownBy w' (some z)) : Ow e w' B v xs := by
  obtain ⟨h1, h2⟩ := h
  refine ⟨h1, ?_⟩
  rcases h2 with h2 | ⟨g, cap, cur, hv, hB, hh, r⟩
  · exact .inl h2
  · refine .inr ⟨g, cap, cur, hv, hB, ?_, r⟩
    exact (hg.block g (lt_of_block hh) (fun e => hz (by rw [hv]; exact e))).trans hh

/-! ### Sectors in a map -/
def SecV (w : World) (v : Option Value) (l : Option (List UInt8)) : Prop := match v, l with
  | none, none => True
  | some v, some l => Ub w 0 v l
  | _, _ => False
def Secs (w : World) (b : Nat) (f : SF) (n : Nat) : Prop := ∃ m, MpV Tryz.prog 3 w b m n ∧ ∀ a, InI a → SecV w (m a) (f a)
theorem SecV.keep {w w' : World} {v : Option Value} {l : Option (List UInt8)} (h : SecV w v l) (hk : ∀ v l, Ub w 0 v l → Ub w' 0 v l) : SecV w' v l := by
  unfold SecV at h ⊢
  cases v <;> cases l <;> simp_all
theorem SecV.some_iff {w : World} {v : Option Value} {l : Option (List UInt8)} (h : SecV w v l) : v.isSome = l.isSome := by
  unfold SecV at h
  cases v <;> cases l <;> simp_all
theorem Secs.later {w w' : World} {b n : Nat} {f : SF} (h : Secs w b f n) (hb : Below w.heap.size w w') : Secs w' b f n := by
  obtain ⟨m, h1, h2⟩ := h
  exact ⟨m, h1.later hb, fun a ha => (h2 a ha).keep fun _ _ h => h.later hb⟩
theorem Secs.other {w w' : World} {b n : Nat} {f : SF} (h : Secs w b f n) {z : Nat} (hz : b ≠ z) (hz2 : kindAt w z ≠ some (some 5)) (hg : w.grownBy w' (some z)) : Secs w' b f n := by
  obtain ⟨m, h1, h2⟩ := h
  exact ⟨m, h1.other hz hg, fun a ha => (h2 a ha).keep fun _ _ h => h.other hz2 hg⟩
theorem Secs.kind {w : World} {b n : Nat} {f : SF} (h : Secs w b f n) : kindAt w b = some none := by
  obtain ⟨m, h1, _⟩ := h
  exact kind_map h1
theorem Secs.lt {w : World} {b n : Nat} {f : SF} (h : Secs w b f n) : b < w.heap.size := by
  obtain ⟨m, h1, _⟩ := h
  exact h1.lt
/-- A new map of sectors. -/
theorem Secs.made (w : World) : Secs (w.alloc (.map #[] 0)) w.heap.size (fun _ => none) 0 := ⟨_, MpV.made _ _ w, fun _ _ => trivial⟩
end Go.Proofs.YthbhkdhljlganaaGreatDoor

namespace Go.Proofs.YthbhkdhljlganaaGreatDoor
open Go Go.RowKit
set_option linter.unusedVariables false

/-- Only blocks of F have turned, and new ones were made. -/
structure Turn (F : Nat → Prop) (w w' : World) : Prop where
  os : w'.os = w.os
  tape : w'.tape = w.tape
  output : w'.output = w.output
  size : w.heap.size ≤ w'.heap.size
  block : ∀ b, b < w.heap.size → ¬ F b → w'.heap[b]? = w.heap[b]?
theorem Turn.refl (F : Nat → Prop) (w : World) : Turn F w w := ⟨rfl, rfl, rfl, Nat.le_refl _, fun _ _ _ => rfl⟩
theorem Turn.of_below {F : Nat → Prop} {w w' : World} (h : Below w.heap.size w w') : Turn F w w' := ⟨h.os, h.tape, h.output, h.size, fun b hb _ => h.block b hb⟩
theorem Turn.of_grown {F : Nat → Prop} {w w' : World} {row : Option Nat} (h : w.grownBy w' row) (hr : ∀ z, row = some z → F z) : Turn F w w' :=
  ⟨h.os, h.tape, h.output, h.size, fun b hb hF => h.block b hb (fun e => hF (hr b e.symm))⟩
theorem Turn.trans {F F' : Nat → Prop} {w w1 w2 : World} (h : Turn F w w1) (k : Turn F' w1 w2) (hF : ∀ b, F' b → F b ∨ w.heap.size ≤ b) : Turn F w w2 :=
  ⟨k.os.trans h.os, k.tape.trans h.tape, k.output.trans h.output, Nat.le_trans h.size k.size, fun b hb hn =>
    (k.block b (Nat.lt_of_lt_of_le hb h.size) (fun e => by rcases hF b e with h1 | h1; exact hn h1; omega)).trans (h.block b hb hn)⟩
theorem Turn.mono {F F' : Nat → Prop} {w w' : World} (h : Turn F w w') (hF : ∀ b, F b → b < w.heap.size → F' b) : Turn F' w w' := ⟨h.os, h.tape, h.output, h.size, fun b hb hn => h.block b hb (fun e => hn (hF b e hb))⟩
theorem Turn.below {F : Nat → Prop} {B : Nat} {w0 w w' : World} (h : Below B w0 w) (k : Turn F w w') (hB : B ≤ w.heap.size) (hF : ∀ b, F b → B ≤ b) : Below B w0 w' :=
  ⟨k.os.trans h.os, k.tape.trans h.tape, k.output.trans h.output, Nat.le_trans h.size k.size, fun b hb =>
    (k.block b (Nat.lt_of_lt_of_le hb hB) (fun e => by have := hF b e; omega)).trans (h.block b hb)⟩
theorem Turn.setCell {F : Nat → Prop} {w w' : World} (h : Turn F w w') {p : Addr} (hp : F p.block ∨ w.heap.size ≤ p.block) (u : Value) : Turn F w (w'.setCell p u) :=
  ⟨h.os, h.tape, h.output, by simpa using h.size, fun b hb hn => (Below.heap_setCell w' p u b (fun e => by subst e; rcases hp with h1 | h1; exact hn h1; omega)).trans (h.block b hb hn)⟩
theorem Turn.drew {F : Nat → Prop} {w w' : World} (h : Turn F w w') : Turn F w w'.drew := ⟨h.os, h.tape, h.output, h.size, h.block⟩
theorem Blk.turn {F : Nat → Prop} {w w' : World} {g : Nat} {t : TypeId} {cs : Array Value} (h : Blk w g t cs) (k : Turn F w w') (hF : ¬ F g) : Blk w' g t cs := (k.block g h.lt hF).trans h

/-- Where a disk lies: its own block, the two maps, the pending writes. -/
structure Zn where
  g : Nat
  bv : Nat
  bg : Nat
  pv : Value
def Zn.has (h : Zn) (b : Nat) : Prop := b = h.g ∨ b = h.bv ∨ b = h.bg ∨ h.pv.ownBlock = some b

/-- A pending write, as a function value. -/
def PnIs (w : World) (v : Value) : Pnd → Prop
  | .wr a b => ∃ ga A c, v = .func (Fn.func 154) #[] #[.pointer (some ⟨ga + 1, 0, none⟩), .pointer (some ⟨ga, 0, none⟩)] ∧ Blk w ga 3 #[.int .i64 a] ∧ Blk w (ga + 1) 31 #[.slice A b.length c] ∧ Ub w 0 (.slice A b.length c) b
  | .fr a => ∃ ga, v = .func (Fn.func 155) #[] #[.pointer (some ⟨ga, 0, none⟩)] ∧ Blk w ga 3 #[.int .i64 a]
def pnKinds : List TypeId := [3, 31, 5]
theorem PnIs.later {w w' : World} {v : Value} {p : Pnd} (h : PnIs w v p) (hb : Below w.heap.size w w') : PnIs w' v p := by
  cases p with
  | wr a b =>
    obtain ⟨ga, A, c, h1, h2, h3, h4⟩ := h
    exact ⟨ga, A, c, h1, h2.later hb, h3.later hb, h4.later hb⟩
  | fr a =>
    obtain ⟨ga, h1, h2⟩ := h
    exact ⟨ga, h1, h2.later hb⟩
theorem PnIs.other {w w' : World} {v : Value} {p : Pnd} (h : PnIs w v p) {z : Nat} (hz : ∀ t ∈ pnKinds, kindAt w z ≠ some (some t)) (hg : w.grownBy w' (some z)) : PnIs w' v p := by
  have key : ∀ {g : Nat} {t : TypeId} {cs : Array Value}, Blk w g t cs → t ∈ pnKinds → Blk w' g t cs := fun hb ht => hb.grown hg (fun e => by
    injection e with e
    subst e
    exact hz _ ht (kind_blk hb))
  cases p with
  | wr a b =>
    obtain ⟨ga, A, c, h1, h2, h3, h4⟩ := h
    exact ⟨ga, A, c, h1, key h2 (by simp [pnKinds]), key h3 (by simp [pnKinds]), h4.other (hz _ (by simp [pnKinds])) hg⟩
  | fr a =>
    obtain ⟨ga, h1, h2⟩ := h
    exact ⟨ga, h1, key h2 (by simp [pnKinds])⟩

/-- The pending writes, as the values vs. -/
def PnL (w : World) (vs : List Value) (ps : List Pnd) : Prop := vs.length = ps.length ∧ ∀ (i : Nat) v p, vs[i]? = some v → ps[i]? = some p → PnIs w v p
theorem PnL.keep {w w' : World} {vs : List Value} {ps : List Pnd} (h : PnL w vs ps) (hk : ∀ v p, PnIs w v p → PnIs w' v p) : PnL w' vs ps := ⟨h.1, fun i v p h1 h2 => hk v p (h.2 i v p h1 h2)⟩
theorem PnL.nil (w : World) : PnL w [] [] := ⟨rfl, fun i v p h => by simp at h⟩
/-- THE DISK D LIES AT h. -/
structure Dk (w : World) (h : Zn) (D : Dsk) : Prop where
  blk : Blk w h.g 76 #[.int .i64 D.size, .int .i64 D.limit, .map (some h.bv), .map (some h.bg), h.pv]
  view : Secs w h.bv D.view D.nv
  ground : Secs w h.bg D.ground D.ng
  ne : h.bv ≠ h.bg
  pend : ∃ vs, Ow 124 w 0 h.pv vs ∧ PnL w vs D.pend
theorem Dk.later {w w' : World} {h : Zn} {D : Dsk} (d : Dk w h D) (hb : Below w.heap.size w w') : Dk w' h D := by
  obtain ⟨vs, h1, h2⟩ := d.pend
  exact ⟨d.blk.later hb, d.view.later hb, d.ground.later hb, d.ne, vs, h1.later hb, h2.keep fun _ _ h => h.later hb⟩
/-- Of what kinds a disk's blocks are. -/
theorem Dk.kinds {w : World} {h : Zn} {D : Dsk} (d : Dk w h D) {b : Nat} (hb : h.has b) : kindAt w b = some (some 76) ∨ kindAt w b = some none ∨ kindAt w b = some (some 124) := by
  obtain ⟨vs, h1, _⟩ := d.pend
  rcases hb with rfl | rfl | rfl | hb
  · exact .inl (kind_blk d.blk)
  · exact .inr (.inl d.view.kind)
  · exact .inr (.inl d.ground.kind)
  · exact .inr (.inr (kind_own h1 hb))
theorem Dk.lt {w : World} {h : Zn} {D : Dsk} (d : Dk w h D) {b : Nat} (hb : h.has b) : b < w.heap.size := by
  obtain ⟨vs, h1, _⟩ := d.pend
  rcases hb with rfl | rfl | rfl | hb
  · exact d.blk.lt
  · exact d.view.lt
  · exact d.ground.lt
  · rcases h1.2 with ⟨h2, _⟩ | ⟨g, cap, cur, h2, _, hh, _⟩
    · rw [h2] at hb; cases hb
    · rw [h2] at hb
      simp only [Value.ownBlock, Option.some.injEq] at hb
      subst hb
      exact lt_of_block hh

end Go.Proofs.YthbhkdhljlganaaGreatDoor

namespace Go.Proofs.YthbhkdhljlganaaGreatDoor
open Go Go.RowKit
set_option linter.unusedVariables false

theorem Secs.put {w w3 : World} {bm n0 : Nat} {m : Int → Option Value} {f : SF} {a : Int} {v : Value} {l : List UInt8} (hr : ∀ x, InI x → SecV w (m x) (f x)) (hm3 : MpV Tryz.prog 3 w3 bm (fun x => if x = a then some v else m x) (nPut m n0 a)) (ht : w.mapTurned w3 bm)
    (hv : Ub w 0 v l) (ha : InI a) (hk : kindAt w bm = some none) : Secs w3 bm (f.put a l) (f.nPut n0 a) := by
  have e : nPut m n0 a = f.nPut n0 a := by unfold nPut SF.nPut; rw [(hr a ha).some_iff]
  refine ⟨_, e ▸ hm3, fun x hx => ?_⟩
  unfold SF.put
  by_cases hxa : x = a
  · simp only [hxa, if_true]
    exact hv.other (by rw [hk]; simp) ht.grown
  · simp only [hxa, if_false]
    exact (hr x hx).keep fun _ _ h => h.other (by rw [hk]; simp) ht.grown
theorem SecV.get {w : World} {v : Option Value} {l : Option (List UInt8)} (h : SecV w v l) : ∃ A c, v.getD (.slice none 0 0) = .slice A (l.getD []).length c ∧ Ub w 0 (.slice A (l.getD []).length c) (l.getD []) := by
  unfold SecV at h
  cases v with
  | none =>
    cases l with
    | none => exact ⟨none, 0, rfl, Sl.nil⟩
    | some l => exact h.elim
  | some v =>
    cases l with
    | none => exact h.elim
    | some l =>
      obtain ⟨A, c, rfl, _⟩ := Ub.bs h |>.at
      exact ⟨A, c, rfl, h⟩

theorem run_slice_pre {P : Program} (w : World) {t e : TypeId} {z : Value} {bytes : Nat} (E : Elem P t e z 1 bytes) {A : Option Addr} {m c : Nat} (_ : True) (hmc : (m : Int) ≤ (c : Int)) (n : Nat) :
    (Instr.sliceAt t (.slice A n c) none (some (.int .i64 (m : Int))) none).run P w = .ok (.slice (if c = 0 then A else A.map (·.add 0)) m c) w := by
  obtain ⟨i, hi0, hz, hs, hby⟩ := E.info
  simp [Instr.sliceAt, Instr.slice, Instr.sliceBounds, Instr.sliceBound, run_underlying E.under, sizeOf, typeInfo, hi0, asIntOf]
  intro h; omega
/-- 'b[:n]' of bytes, whatever the slice is. -/
theorem wpList_slice_pre {P : Program} (w : World) {ops : Array Oper} {rest : List Oper} {o : Oper} {a : Act} {Q : Exit → Act → World → Prop} (hgd : o.guard = none) (x hi : Operand) {t e : TypeId} {z : Value} {bytes : Nat} (E : Elem P t e z 1 bytes)
    (ho : o.op = .slice t x none (some hi) none) {S : Nat → Prop} {l : List UInt8} {A : Option Addr} {c m : Nat} (hb : Bs S w (.slice A l.length c) l) (hx : a.eval x = .slice A l.length c) (hh : a.eval hi = .int .i64 (m : Int)) (hm : m ≤ l.length)
    (h : ∀ A', Bs S w (.slice A' m c) (l.take m) → wpList P ops Q rest (a.put o.dst (.slice A' m c)) w) : wpList P ops Q (o :: rest) a w := by
  refine wpList_plain hgd fun K hK => ?_
  obtain ⟨i, hi0, hz, hs, hby⟩ := E.info
  obtain ⟨A1, c1, hv, h3, h4, h5, h6⟩ := hb.at
  injection hv with hA _ hc
  subst hA hc
  have hl : (l.take m).length = m := by rw [List.length_take]; omega
  have hh' : True := trivial
  have key : ∀ A', (c = 0 → A' = A) → (c ≠ 0 → A' = A.map (·.add 0)) → Bs S w (.slice A' m c) (l.take m) := by
    intro A' g1 g2
    have := Bs.mk_ (S := S) (w := w) (l := l.take m) (A := A') (c := c) (by omega) h4 (fun e0 => by
      by_cases hc0 : c = 0
      · exact hc0
      · have := g2 hc0
        rw [e0] at this
        cases A with
        | none => exact h5 rfl
        | some ad => cases this) (fun hn => by
      obtain ⟨b, o', hA, hS, hcell⟩ := h6 (by omega)
      refine ⟨b, o', ?_, hS, fun j hj => ?_⟩
      · rw [g2 (by omega), hA]
        simp [addr_add_none]
      · rw [hcell j (by omega), List.getElem_take])
    rwa [hl] at this
  have hrun := run_slice_pre (P := P) w E (A := A) hh' (show (m : Int) ≤ (c : Int) by omega) l.length
  unfold Oper.wp
  simp [execOp, ho, hx, hh, hrun, Result.andThen]
  refine hK _ _ (h _ (key _ (fun e => if_pos e) (fun e => if_neg e)))

end Go.Proofs.YthbhkdhljlganaaGreatDoor

namespace Go.Proofs.YthbhkdhljlganaaGreatDoor
open Go Go.RowKit
set_option linter.unusedVariables false

end Go.Proofs.YthbhkdhljlganaaGreatDoor

namespace Go.Proofs.YthbhkdhljlganaaGreatDoor
open Go Go.RowKit
set_option linter.unusedVariables false

theorem below_of_grown {w w' : World} (h : w.grownBy w' none) : Below w.heap.size w w' := ⟨h.os, h.tape, h.output, h.size, fun i hi => h.block i hi (by simp)⟩
set_option maxHeartbeats 1000000 in
theorem dnew_any (n : Int) (w : World) (h1 : 1 ≤ n) (h2 : n ≤ 65536) :
    Calls Tryz.prog 5 #[.int .i64 n] w fun e w' => ∃ h, e = .returned (.tuple #[.pointer (some ⟨h.g, 0, none⟩), .int .i64 0]) ∧ Dk w' h (Dsk.new n) ∧ (∀ b, h.has b → w.heap.size ≤ b) ∧ Below w.heap.size w w' := by
  have hmm := @run_makeMap Tryz.prog
  have i1 : ¬ n < 1 := by omega
  have i2 : ¬ 65536 < n := by omega
  go_enter Tryz.func5, Tryz.ntmps5
  go_wp2_with fail
  go_ret2
  have s1 : (w.alloc (.map #[] 0)).heap.size = w.heap.size + 1 := by simp
  have s2 : ((w.alloc (.map #[] 0)).alloc (.map #[] 0)).heap.size = w.heap.size + 1 + 1 := by simp
  have q1 : Below (w.heap.size + 1) (w.alloc (.map #[] 0)) ((w.alloc (.map #[] 0)).alloc (.map #[] 0)) := by
    have := (Below.refl (w.alloc (.map #[] 0)).heap.size (w.alloc (.map #[] 0))).alloc (Nat.le_refl _) (.map #[] 0)
    rwa [s1] at this
  have m1 := Secs.made w
  have m2 := Secs.made (w.alloc (.map #[] 0))
  rw [s1] at m2
  have m1' : Secs ((w.alloc (.map #[] 0)).alloc (.map #[] 0)) w.heap.size (fun _ => none) 0 := m1.later (by rw [s1]; exact q1)
  have b3 := Blk.new ((w.alloc (.map #[] 0)).alloc (.map #[] 0)) 76 #[.int .i64 n, .int .i64 n, .map (some w.heap.size), .map (some (w.heap.size + 1)), .slice none 0 0]
  rw [s2] at b3
  have q3 := (Below.refl ((w.alloc (.map #[] 0)).alloc (.map #[] 0)).heap.size ((w.alloc (.map #[] 0)).alloc (.map #[] 0))).alloc (Nat.le_refl _) (.cells #[.int .i64 n, .int .i64 n, .map (some w.heap.size), .map (some (w.heap.size + 1)), .slice none 0 0] 76)
  refine ⟨⟨w.heap.size + 1 + 1, w.heap.size, w.heap.size + 1, .slice none 0 0⟩, rfl, ⟨b3, m1'.later q3, m2.later q3, by simp, [], World.ownsRow_nil _ _ _ _, PnL.nil _⟩, fun b hb => ?_, (((Below.refl _ _).alloc (Nat.le_refl _) _).alloc (by simp) _).alloc (by simp; omega) _⟩
  rcases hb with h | h | h | h
  · simp only at h; omega
  · simp only at h; omega
  · simp only at h; omega
  · cases h
theorem grown_cell {w : World} {g i : Nat} (u : Value) : w.grownBy (w.setCell ⟨g, i, none⟩ u) (some g) := ⟨rfl, rfl, rfl, by simp, fun k hk hne => Below.heap_setCell w ⟨g, i, none⟩ u k (fun e => hne (by rw [e]))⟩
end Go.Proofs.YthbhkdhljlganaaGreatDoor

namespace Go.Proofs.YthbhkdhljlganaaGreatDoor
open Go Go.RowKit
set_option linter.unusedVariables false

/-- What the walk of a look at the view wants. -/
theorem Dk.look {w : World} {h : Zn} {D : Dsk} (d : Dk w h D) {a : Int} (ha : InI a) : ∃ v, (Instr.lookup 73 (.map (some h.bv)) (.int .i64 a) true).run Tryz.prog w = .ok (.tuple #[v, .bool (D.view a).isSome]) w ∧
    ∀ l, D.view a = some l → Ub w 0 v l := by
  obtain ⟨m, hm, hr⟩ := d.view
  have hs := hr a ha
  refine ⟨_, by rw [← hs.some_iff]; exact hm.look intTy secTy (nilBytes w) ha, fun l hl => ?_⟩
  rw [hl] at hs
  cases hma : m a with
  | none => rw [hma] at hs; exact hs.elim
  | some v => rw [hma] at hs; exact hs
set_option maxHeartbeats 2000000 in
set_option maxRecDepth 100000 in
theorem dread_any (h : Zn) (D : Dsk) (a : Int) (w : World) (hd : Dk w h D) (hok : D.Ok) (ha : InI a) :
    Calls Tryz.prog 88 #[.pointer (some ⟨h.g, 0, none⟩), .int .i64 a] w fun e w' =>
      (∀ l, D.view a = some l → ∃ A c, e = .returned (.tuple #[.slice A l.length c, .int .i64 0]) ∧ Ob 5 w' w.heap.size (.slice A l.length c) l) ∧
      (D.view a = none → e = .returned (.tuple #[.slice none 0 0, .int .i64 61])) ∧ Below w.heap.size w w' := by
  obtain ⟨v, hlk, hv⟩ := hd.look ha
  have hd2 : w.cell? ⟨h.g, 2, none⟩ = some (.map (some h.bv)) := hd.blk.cell 2
  have HV := Lib.hid hv
  have HOK := Lib.hid hok
  cases hva : D.view a with
  | none =>
    rw [hva] at hlk
    simp only [Option.isSome_none] at hlk
    clear hd hv hok
    go_enter Tryz.func88, Tryz.ntmps88
    go_wp2_with fail
    go_ret2
    exact ⟨(fun l h => by cases h), fun _ => rfl, Below.refl _ _⟩
  | some l =>
    rw [hva] at hlk
    simp only [Option.isSome_some] at hlk
    have hub := hv l hva
    obtain ⟨A, c, rfl, _⟩ := hub.bs.at
    have HU := Lib.hid hub
    have hll : l.length ≤ 512 := (hok.view.at hva).2.2
    clear hd hv hok hub HV
    go_enter Tryz.func88, Tryz.ntmps88
    go_wp2_with (first
      | (at_builtin; refine wpList_append_bs _ rfl (.tmp 19) (.tmp 20) elemU8 rfl (Ob.made _ _ w.heap.size (Nat.le_refl _) (by simp)) (Sl.alloc1 HU.out _) rfl rfl (by simp; omega) (by simp) ?_; intro A1 k1 c1 w1 hown1 hga1 hat1)
      | fail)
    go_ret2
    have q : Below w.heap.size w w1 := below_grown_own ((Below.refl _ _).alloc (Nat.le_refl _) _) (Ob.made _ _ w.heap.size (Nat.le_refl _) (by simp)) hga1 (by simp)
    have ho : Ob 5 w1 w.heap.size (.slice A1 k1 c1) l := by simpa using hown1
    obtain rfl := ho.len
    exact ⟨fun l' h' => (by cases h'; exact ⟨A1, c1, rfl, ho⟩), (fun h => by cases h), q⟩

end Go.Proofs.YthbhkdhljlganaaGreatDoor

namespace Go.Proofs.YthbhkdhljlganaaGreatDoor
open Go Go.RowKit
set_option linter.unusedVariables false

end Go.Proofs.YthbhkdhljlganaaGreatDoor

namespace Go.Proofs.YthbhkdhljlganaaGreatDoor
open Go Go.RowKit
set_option linter.unusedVariables false

end Go.Proofs.YthbhkdhljlganaaGreatDoor

namespace Go.Proofs.YthbhkdhljlganaaGreatDoor
open Go Go.RowKit
set_option linter.unusedVariables false

def recV (r : Nat × List UInt8) : Value := .agg #[.int .u64 (r.1 : Int), .string (st r.2)]

end Go.Proofs.YthbhkdhljlganaaGreatDoor
