/- What the proof of TreeOpens needs, part 12. -/
import Derived.Test.YthbhkdhljlganaaGreatDoorTreeOpensJ2
import Derived.Test.YthbhkdhljlganaaGreatDoorTreeOpensJ7
import Derived.Test.YthbhkdhljlganaaGreatDoorTreeOpensJ11
import Derived.BigQuiet
import Derived.Deep.DeepCutAuto
import Derived.Deep.Cut
import Derived.Deep.CutBlock
import Derived.Deep.QuietTactic

namespace Go.Proofs.YthbhkdhljlganaaGreatDoor
open Go Go.RowKit
set_option linter.unusedVariables false

set_option maxHeartbeats 4000000 in
set_option maxRecDepth 100000 in
theorem talloc_any (g : Nat) (Z : Pz) (P : Pgr) (c : Int → List UInt8) (S : Nat → Prop) (leaf : Bool) (n : Nat) (v0 : Value) (cs : List Cel) (w : World) (ht : Tg w g Z P c) (hm : Mid cs) (hn : n ≤ 1000000) (hr : Cs S w v0 cs) :
    Calls Tryz.prog 112 #[.pointer (some ⟨g, 0, none⟩), .agg #[.bool leaf, .int .i64 (n : Int), v0]] w fun e w' => e = .returned (.int .i64 ((P.al (leaf, n, cs)).2 : Int)) ∧ TgDone g Z (P.al (leaf, n, cs)).1 c w w' := by
  have HT := Lib.hid ht
  have HR := Lib.hid hr.lt
  obtain ⟨A, c1, rfl, _⟩ := hr.at
  have HQ0 := Lib.hid ((Below.refl w.heap.size w).alloc (Nat.le_refl _) (.cells #[.bool leaf, .int .i64 (n : Int), .slice A cs.length c1] 36))
  have hb0 : Blk (w.alloc (.cells #[.bool leaf, .int .i64 (n : Int), .slice A cs.length c1] 36)) w.heap.size 36 #[.bool leaf, .int .i64 (n : Int), .slice A cs.length c1] := Blk.new _ _ _
  have HT0 := Lib.hid (ht.later HQ0.out)
  have HR0 := Lib.hid (HR.out.up HQ0.out)
  clear ht hr
  have d0 : (w.alloc (.cells #[.bool leaf, .int .i64 (n : Int), .slice A cs.length c1] 36)).cell? ⟨w.heap.size, 0, none⟩ = some (.bool leaf) := hb0.cell 0
  have d1 : (w.alloc (.cells #[.bool leaf, .int .i64 (n : Int), .slice A cs.length c1] 36)).cell? ⟨w.heap.size, 1, none⟩ = some (.int .i64 (n : Int)) := hb0.cell 1
  have d2 : (w.alloc (.cells #[.bool leaf, .int .i64 (n : Int), .slice A cs.length c1] 36)).cell? ⟨w.heap.size, 2, none⟩ = some (.slice A cs.length c1) := hb0.cell 2
  clear hb0
  go_enter Tryz.func112, Tryz.ntmps112
  generalize hW : w.alloc (.cells #[.bool leaf, .int .i64 (n : Int), .slice A cs.length c1] 36) = W at *
  go_wp2_with fail
  refine (pgbytes_any _ leaf (n : Int) _ cs W HT0.out.bits (by omega) hm HR0.out).mono ?_
  rintro e w1 ⟨hok, hno, hb1⟩
  have HT1 := Lib.hid (HT0.out.later hb1)
  have HQ1 := Lib.hid (HQ0.out.trans (hb1.mono HQ0.out.size))
  have e0 : w1.cell? ⟨g, 0, none⟩ = some (.pointer (some ⟨Z.g, 0, none⟩)) := HT1.out.blk.cell 0
  have HPB : Hid (pgB (leaf, n, cs) = if pgChk (n : Int) cs = 0 then sealB (pgF leaf (n : Int) cs) else []) := rfl
  have HL := pgB_len (leaf, n, cs)
  have HWP : Hid (P.al (leaf, n, cs) = ((P.alloc (pgB (leaf, n, cs))).1, (P.alloc (pgB (leaf, n, cs))).2.1)) := rfl
  generalize pgB (leaf, n, cs) = b at *
  have fin : ∀ (w2 : World), PgDone Z (P.alloc b).1 w1 w2 → TgDone g Z (P.al (leaf, n, cs)).1 c w w2 := fun w2 hd => by
    rw [HWP.out]
    exact ⟨HT1.out.done hd (Kin.alloc P b), (Ptp.below HQ1.out).trans hd.2⟩
  have FIN := Lib.hid fin
  clear fin
  by_cases hc : pgChk (n : Int) cs = 0
  · obtain ⟨A2, k2, c2, rfl, hob⟩ := hok hc
    rw [if_pos hc] at HPB
    have HB := HPB.out
    subst HB
    have HOB := Lib.hid hob
    clear hok hno hb1 hob hc
    go_wp2_with fail
    refine (palloc_any Z P _ _ _ w1 HT1.out.pg HOB.out.bs (by omega)).mono ?_
    rintro e w2 ⟨rfl, hd⟩
    go_wp2_with fail
    go_ret
    exact ⟨by rw [HWP.out]; rfl, FIN.out w2 hd⟩
  · obtain rfl := hno hc
    rw [if_neg hc] at HPB
    have HB := HPB.out
    subst HB
    clear hok hno hb1 hc
    go_wp2_with fail
    refine (palloc_any Z P (fun _ => True) _ [] w1 HT1.out.pg (Bs.nilv _ _) (by simp)).mono ?_
    rintro e w2 ⟨rfl, hd⟩
    go_wp2_with fail
    go_ret
    exact ⟨by rw [HWP.out]; rfl, FIN.out w2 hd⟩

set_option maxHeartbeats 4000000 in
set_option maxRecDepth 100000 in
theorem tbelow_any (S : Nat → Prop) (leaf : Bool) (n : Nat) (v0 : Value) (cs : List Cel) (key : List UInt8) (w : World) (hl : cs.length ≤ 100000) (hr : Cs S w v0 cs) (hri : RisesP cs) :
    Calls Tryz.prog 87 #[.agg #[.bool leaf, .int .i64 (n : Int), v0], .string (st key)] w fun e w' => e = .returned (.int .i64 (belowN cs key : Int)) ∧ Below w.heap.size w w' := by
  have HR := Lib.hid hr.lt
  obtain ⟨A, c1, rfl, _⟩ := hr.at
  have HQ0 := Lib.hid ((Below.refl w.heap.size w).alloc (Nat.le_refl _) (.cells #[.bool leaf, .int .i64 (n : Int), .slice A cs.length c1] 36))
  have hb0 : Blk (w.alloc (.cells #[.bool leaf, .int .i64 (n : Int), .slice A cs.length c1] 36)) w.heap.size 36 #[.bool leaf, .int .i64 (n : Int), .slice A cs.length c1] := Blk.new _ _ _
  have HR0 := Lib.hid (HR.out.up HQ0.out)
  clear hr
  have d0 : (w.alloc (.cells #[.bool leaf, .int .i64 (n : Int), .slice A cs.length c1] 36)).cell? ⟨w.heap.size, 0, none⟩ = some (.bool leaf) := hb0.cell 0
  have d1 : (w.alloc (.cells #[.bool leaf, .int .i64 (n : Int), .slice A cs.length c1] 36)).cell? ⟨w.heap.size, 1, none⟩ = some (.int .i64 (n : Int)) := hb0.cell 1
  have d2 : (w.alloc (.cells #[.bool leaf, .int .i64 (n : Int), .slice A cs.length c1] 36)).cell? ⟨w.heap.size, 2, none⟩ = some (.slice A cs.length c1) := hb0.cell 2
  clear hb0
  go_enter Tryz.func87, Tryz.ntmps87
  generalize hW : w.alloc (.cells #[.bool leaf, .int .i64 (n : Int), .slice A cs.length c1] 36) = W at *
  go_wp2_with fail
  refine (pfind_any _ leaf (n : Int) _ cs key W (by omega) HR0.out hri).mono ?_
  rintro e w1 ⟨rfl, hb1⟩
  have HQ1 := Lib.hid (HQ0.out.trans (hb1.mono HQ0.out.size))
  have hK := findK_le cs key
  have HBN : Hid (belowN cs key = if isK cs key then findK cs key else findK cs key - 1) := rfl
  generalize findK cs key = K at *
  clear hb1 hri
  cases hk : isK cs key with
  | true =>
    rw [hk, if_pos rfl] at HBN
    have h1 : (if (K : Int) < 0 then (0 : Int) else (K : Int)) = (K : Int) := if_neg (by omega)
    go_wp2_with fail
    go_ret
    exact ⟨by rw [HBN.out]; rfl, HQ1.out⟩
  | false =>
    rw [hk] at HBN
    simp only [Bool.false_eq_true, if_false] at HBN
    have h2 : IntKind.i64.wrap ((K : Int) - 1) = (K : Int) - 1 := i64_inp (by omega) (by omega)
    go_wp2_with fail
    go_ret
    have h3 : max ((K : Int) - 1) 0 = ((K - 1 : Nat) : Int) := by omega
    exact ⟨by rw [HBN.out, ← h3]; rfl, HQ1.out⟩
end Go.Proofs.YthbhkdhljlganaaGreatDoor

namespace Go.Proofs.YthbhkdhljlganaaGreatDoor
open Go Go.RowKit
set_option linter.unusedVariables false

/-! ### Steps in memory -/
def stC (s : TStp) (v : Value) : List Value := [.int .i64 s.id, .int .i64 (s.at_ : Int), .bool s.pg.1, .int .i64 (s.pg.2.1 : Int), v]
abbrev Ways := List (TStp × Value)
def wsC (l : Ways) : List Value := l.flatMap fun x => stC x.1 x.2
theorem wsC_app (a b : Ways) : wsC (a ++ b) = wsC a ++ wsC b := by simp [wsC]
theorem wsC_one (s : TStp) (v : Value) : wsC [(s, v)] = stC s v := by simp [wsC]
theorem wsC_len (l : Ways) : (wsC l).length = l.length * 5 := by
  induction l with
  | nil => rfl
  | cons x l ih =>
    have e : wsC (x :: l) = stC x.1 x.2 ++ wsC l := by simp [wsC]
    rw [e, List.length_append, ih, List.length_cons]
    simp [stC]
    omega
theorem elemStep : Elem Tryz.prog 104 138 (.agg #[.int .i64 0, .int .i64 0, .bool false, .int .i64 0, .slice none 0 0]) 5 56 := Elem.mk' Tryz.underlying104 (by kernel_rfl) rfl (by omega)
/-- A new block of one element. -/
theorem Sl.newb {S : Nat → Prop} (w : World) (e : TypeId) (cs : List Value) {g : Nat} (hg : g = w.heap.size) (hS : S g) : Sl S (w.alloc (.cells cs.toArray e)) cs.length (.slice (some ⟨g, 0, none⟩) 1 1) 1 cs := by
  subst hg
  refine ⟨by simp, _, 1, rfl, by omega, by simp [maxLen], (fun h => by cases h), fun _ => ⟨_, 0, rfl, hS, fun j u hu => ?_⟩⟩
  rw [Nat.zero_add]
  have := (Blk.new w e cs.toArray).cell j
  rw [this, List.getElem?_toArray]
  exact hu
/-- Steps that are the call's own. -/
structure Wy (w : World) (B : Nat) (v : Value) (l : Ways) : Prop where
  own : w.ownsRow B 138 5 v l.length (wsC l)
  cs : ∀ x ∈ l, Cs (fun b => B ≤ b ∧ b < w.heap.size ∧ v.ownBlock ≠ some b) w x.2 x.1.pg.2.2
/-- Steps that are read. -/
structure Wsl (S : Nat → Prop) (w : World) (v : Value) (l : Ways) : Prop where
  sl : Sl S w 5 v l.length (wsC l)
  cs : ∀ x ∈ l, Cs S w x.2 x.1.pg.2.2
section
variable {w w' : World} {B : Nat} {v : Value} {l : Ways}
theorem own_hold {e : TypeId} {size n : Nat} {xs : List Value} (h : w.ownsRow B e size v n xs) (hb : Below w.heap.size w w') : w'.ownsRow B e size v n xs := by
  obtain ⟨h1, h2⟩ := h
  refine ⟨h1, ?_⟩
  rcases h2 with h2 | ⟨g, cap, cur, hv, hg, hh, r⟩
  · exact .inl h2
  · exact .inr ⟨g, cap, cur, hv, hg, (hb.block g (lt_of_block hh)).trans hh, r⟩
theorem Wy.nil (w : World) (B : Nat) : Wy w B (.slice none 0 0) [] := ⟨World.ownsRow_nil w B _ 5, fun x hx => by cases hx⟩
theorem Wy.later (h : Wy w B v l) (hb : Below w.heap.size w w') : Wy w' B v l :=
  ⟨own_hold h.own hb, fun x hx => (Sl.below (h.cs x hx) hb fun b h => h.2.1).more fun b h => ⟨h.1, Nat.lt_of_lt_of_le h.2.1 hb.size, h.2.2⟩⟩
theorem Wy.push {w2 : World} {v' : Value} (h : Wy w B v l) {s : TStp} {u : Value} (hown : w2.ownsRow B 138 5 v' (l.length + 1) (wsC l ++ stC s u)) (hg : w.grownBy w2 v.ownBlock) (hat : v'.ownBlock = v.ownBlock ∨ v'.ownBlock = some w.heap.size)
    (hu : Cs (fun b => B ≤ b ∧ b < w.heap.size ∧ v.ownBlock ≠ some b) w u s.pg.2.2) : Wy w2 B v' (l ++ [(s, u)]) := by
  have keep : ∀ {u : Value} {cs : List Cel}, Cs (fun b => B ≤ b ∧ b < w.heap.size ∧ v.ownBlock ≠ some b) w u cs → Cs (fun b => B ≤ b ∧ b < w2.heap.size ∧ v'.ownBlock ≠ some b) w2 u cs := fun h =>
    (Sl.grown h hg (fun b h => h.2.1) (fun b h e => h.2.2 e.symm)).more fun b h => ⟨h.1, Nat.lt_of_lt_of_le h.2.1 hg.size, fun e => by
      rcases hat with h5 | h5
      · exact h.2.2 (h5 ▸ e)
      · rw [h5] at e
        injection e with e
        have := h.2.1
        omega⟩
  refine ⟨?_, fun x hx => ?_⟩
  · rw [List.length_append, wsC_app, wsC_one]
    exact hown
  · rcases List.mem_append.1 hx with hx | hx
    · exact keep (h.cs x hx)
    · obtain rfl := List.mem_singleton.1 hx
      exact keep hu
theorem Wy.step {w0 w3 : World} {v' : Value} (h : Wy w w0.heap.size v l) (hB : Below w0.heap.size w0 w) {o : Obj} {s : TStp} {u : Value} (hown : w3.ownsRow w0.heap.size 138 5 v' (l.length + 1) (wsC l ++ stC s u)) (hg : (w.alloc o).grownBy w3 v.ownBlock)
    (hat : v'.ownBlock = v.ownBlock ∨ v'.ownBlock = some (w.alloc o).heap.size) (hu : Cs (fun b => w0.heap.size ≤ b ∧ b < w.heap.size ∧ v.ownBlock ≠ some b) w u s.pg.2.2) : Wy w3 w0.heap.size v' (l ++ [(s, u)]) ∧ Below w0.heap.size w0 w3 := by
  have q := (Below.refl w.heap.size w).alloc (Nat.le_refl _) o
  have h2 := h.later q
  have hB2 := hB.alloc hB.size o
  refine ⟨h2.push hown hg hat ((Sl.below hu q fun b h => h.2.1).more fun b h => ⟨h.1, Nat.lt_of_lt_of_le h.2.1 q.size, h.2.2⟩), below_grown_own hB2 h2.own hg hB2.size⟩
theorem Wy.wsl (h : Wy w B v l) : Wsl (fun b => B ≤ b ∧ b < w.heap.size) w v l := ⟨Sl.of_own (by omega) h.own, fun x hx => (h.cs x hx).more fun b h => ⟨h.1, h.2.1⟩⟩
end
def sLen : Value → Nat | .slice _ n _ => n | _ => 0
/-- The way so far, and what is still to come. -/
structure WaySt (w wr : World) (pf : Int → Pag) (key : List UInt8) (L : List TStp) (v : Value) (done : Ways) (rest : List TStp) (i : Int) (n : Nat) : Prop where
  own : Wy wr w.heap.size v done
  way : wayF pf key n i = some rest
  all : done.map (·.1) ++ rest = L
  below : Below w.heap.size w wr
  ini : InI i
theorem childT_i (v : List UInt8) : InI (childT v) := by
  rcases childT_rng v with h | h
  · rw [h]; unfold InI; omega
  · unfold InI; omega
theorem cells_len {x : Pag} (h : POk x) : x.2.2.length ≤ 1100 ∧ x.2.1 ≤ 256 := by
  have h1 := sz_len (x := x)
  have h2 := h.parts
  omega

theorem Cs.get {S : Nat → Prop} {w : World} {b o c : Nat} {cs : List Cel} (h : Cs S w (.slice (some ⟨b, o, none⟩) cs.length c) cs) {j : Nat} (hj : j < cs.length) :
    w.cell? ⟨b, o + j * 2, none⟩ = some (.string (st cs[j].1)) ∧ w.cell? ⟨b, o + j * 2 + 1, none⟩ = some (.string (st cs[j].2)) := by
  obtain ⟨A, c', hv, _, _, _, hA⟩ := h.at
  injection hv with hv _ _
  obtain ⟨b', o', hb, _, hc⟩ := hA (by omega)
  rw [← hv] at hb
  injection hb with hb
  injection hb with h1 h2
  subst h1 h2
  exact hc j hj
theorem Cs.some {S : Nat → Prop} {w : World} {A : Option Addr} {n c : Nat} {cs : List Cel} (h : Cs S w (.slice A n c) cs) (h0 : 0 < cs.length) : ∃ b o, A = some ⟨b, o, none⟩ := by
  obtain ⟨A', c', hv, _, _, _, hA⟩ := h.at
  injection hv with hv _ _
  obtain ⟨b', o', hb, _, hc⟩ := hA h0
  exact ⟨b', o', hv.trans hb⟩
theorem cellAt_get {cs : List Cel} {j : Nat} (h : j < cs.length) : cellAt cs j = cs[j] := by
  unfold cellAt
  rw [List.getElem?_eq_getElem h]
  rfl
/-- What the way down is, in memory. -/
def WayPost (L : List TStp) (w : World) (e : Ending) (w' : World) : Prop :=
  ∃ A k c' ls, e = .returned (.slice A k c') ∧ Wsl (fun b => w.heap.size ≤ b ∧ b < w'.heap.size) w' (.slice A k c') ls ∧ ls.map (·.1) = L ∧ Below w.heap.size w w'
set_option maxHeartbeats 8000000 in
set_option maxRecDepth 100000 in
theorem tway_any (g : Nat) (Z : Pz) (P : Pgr) (c : Int → List UInt8) (key : List UInt8) (n0 : Nat) (L : List TStp) (w : World) (ht : Tg w g Z P c) (hw : wayF (P.pgD c) key n0 0 = some L) (hL : L.length ≤ 100000) :
    Calls Tryz.prog 44 #[.pointer (some ⟨g, 0, none⟩), .string (st key)] w (WayPost L w) := by
  have HT := Lib.hid ht
  have R0 : Hid (WaySt w w (P.pgD c) key L (.slice none 0 0) [] L 0 n0) := ⟨Wy.nil _ _, hw, rfl, Below.refl _ _, by unfold InI; omega⟩
  clear ht hw
  go_enter Tryz.func44, Tryz.ntmps44
  go_wp2_with fail
  go_loopw [5, 6] (fun lv iv wr => ∃ (A : Option Addr) (k c' : Nat) (done : Ways) (rest : List TStp) (i : Int) (n : Nat), lv = .slice A k c' ∧ iv = .int .i64 i ∧ Hid (WaySt w wr (P.pgD c) key L (.slice A k c') done rest i n)) (fun lv _ _ => L.length - sLen lv)
  case atStart => exact ⟨none, 0, 0, [], L, 0, n0, rfl, rfl, R0⟩
  case round =>
    clear R0
    obtain ⟨A, k, c', done, rest, i, n, rfl, rfl, R⟩ := hrel
    have HTR := Lib.hid (HT.out.later R.out.below)
    have hk : k = done.length := own_len R.out.own.own
    subst hk
    go_wp2_with fail
    refine (tread_any g Z P c i wr HTR.out R.out.ini).mono ?_
    rintro e w1 ⟨v, rfl, ⟨A1, c1, rfl, hcs⟩, hb1⟩
    have hok := pgD_ok P c i
    have hlen := cells_len hok
    have hstep : (((P.pgD c i).1 = true ∨ (P.pgD c i).2.2 = []) ∧ rest = [⟨i, 0, P.pgD c i⟩]) ∨ (¬ ((P.pgD c i).1 = true ∨ (P.pgD c i).2.2 = []) ∧ ∃ n' rest', wayF (P.pgD c) key n' (childT (cellAt (P.pgD c i).2.2 (belowN (P.pgD c i).2.2 key)).2) = some rest' ∧ rest = ⟨i, belowN (P.pgD c i).2.2 key, P.pgD c i⟩ :: rest') := by
      have h := R.out.way
      rcases n with _ | n
      · cases h
      · rw [wayF] at h
        split at h
        · rename_i hc
          injection h with h
          exact .inl ⟨hc, h.symm⟩
        · rename_i hc
          rw [Option.map_eq_some_iff] at h
          obtain ⟨r, h1, h2⟩ := h
          exact .inr ⟨hc, n, r, h1, h2.symm⟩
    have HSTEP := Lib.hid hstep
    have HOK := Lib.hid hok
    have HI := Lib.hid R.out.ini
    have HQ1 := Lib.hid (R.out.below.trans (hb1.mono R.out.below.size))
    have HY1 := Lib.hid (R.out.own.later hb1)
    have HALL := Lib.hid R.out.all
    have hwr := R.out.below.size
    have HCS : Hid (Cs (fun b => w.heap.size ≤ b ∧ b < w1.heap.size ∧ (Value.slice A done.length c').ownBlock ≠ some b) w1 (.slice A1 (P.pgD c i).2.2.length c1) (P.pgD c i).2.2) := hcs.more fun b h => ⟨by omega, h.2, fun e => by have := R.out.own.own.lt b e; omega⟩
    have hz1 := hb1.size
    clear hok hstep hcs hb1 R HTR
    have hdl : done.length ≤ L.length := by rw [← HALL.out]; simp
    generalize P.pgD c i = X at *
    obtain ⟨leaf, nx, cs⟩ := X
    simp only at HCS hlen ⊢
    have hb0 : Blk (w1.alloc (.cells #[.bool leaf, .int .i64 (nx : Int), .slice A1 cs.length c1] 36)) w1.heap.size 36 #[.bool leaf, .int .i64 (nx : Int), .slice A1 cs.length c1] := Blk.new _ _ _
    have d0 : (w1.alloc (.cells #[.bool leaf, .int .i64 (nx : Int), .slice A1 cs.length c1] 36)).cell? ⟨w1.heap.size, 0, none⟩ = some (.bool leaf) := hb0.cell 0
    have d1 : (w1.alloc (.cells #[.bool leaf, .int .i64 (nx : Int), .slice A1 cs.length c1] 36)).cell? ⟨w1.heap.size, 1, none⟩ = some (.int .i64 (nx : Int)) := hb0.cell 1
    have d2 : (w1.alloc (.cells #[.bool leaf, .int .i64 (nx : Int), .slice A1 cs.length c1] 36)).cell? ⟨w1.heap.size, 2, none⟩ = some (.slice A1 cs.length c1) := hb0.cell 2
    have QA := (Below.refl w1.heap.size w1).alloc (Nat.le_refl _) (.cells #[.bool leaf, .int .i64 (nx : Int), .slice A1 cs.length c1] 36)
    have HQA := Lib.hid QA
    have HB0 := Lib.hid hb0
    have HYA := Lib.hid (HY1.out.later QA)
    have HCSA : Hid (Cs (fun b => w.heap.size ≤ b ∧ b < (w1.alloc (.cells #[.bool leaf, .int .i64 (nx : Int), .slice A1 cs.length c1] 36)).heap.size ∧ (Value.slice A done.length c').ownBlock ≠ some b) (w1.alloc (.cells #[.bool leaf, .int .i64 (nx : Int), .slice A1 cs.length c1] 36)) (.slice A1 cs.length c1) cs) :=
      (Sl.below HCS.out QA fun b h => h.2.1).more fun b h => ⟨h.1, by have := h.2.1; simp; omega, h.2.2⟩
    have HQ2 := Lib.hid (HQ1.out.trans (QA.mono HQ1.out.size))
    clear hb0 QA HY1 HCS HQ1
    by_cases hend : leaf = true ∨ cs = []
    · have hrest : rest = [⟨i, 0, (leaf, nx, cs)⟩] := by
        rcases HSTEP.out with h | h
        · exact h.2
        · exact absurd hend h.1
      subst hrest
      have HF : Hid (done.map (·.1) ++ [⟨i, 0, (leaf, nx, cs)⟩] = L) := HALL.out
      clear HSTEP HALL
      cases leaf with
      | true =>
        go_wp2_with (at_builtin; refine wpList_append_sl _ rfl (.tmp 24) (.tmp 28) elemStep rfl (own_hold HYA.out.own ((Below.refl _ _).alloc (Nat.le_refl _) _)) (Sl.newb (S := fun _ => True) _ _ (stC ⟨i, 0, (true, nx, cs)⟩ (.slice A1 cs.length c1)) (by simp) trivial) rfl rfl (by intro y hy; simp [stC] at hy; rcases hy with rfl | rfl | rfl | rfl | rfl <;> rfl) (by simp only [maxLen]; omega) (by omega) (by simp; omega) ?_; intro A3 k3 c3 w3 hown3 hg3 hat3)
        obtain ⟨y1, y2⟩ := HYA.out.step HQ2.out hown3 hg3 hat3 HCSA.out
        go_ret
        exact ⟨A3, k3, c3, _, rfl, y1.wsl, by rw [← HF.out]; simp, y2⟩
      | false =>
        have hcs0 : cs = [] := hend.resolve_left (by simp)
        have hcl0 : ((cs.length : Int) == 0) = true := by rw [hcs0]; rfl
        clear hcs0 hend
        go_wp2_with (at_builtin; refine wpList_append_sl _ rfl (.tmp 24) (.tmp 28) elemStep rfl (own_hold HYA.out.own ((Below.refl _ _).alloc (Nat.le_refl _) _)) (Sl.newb (S := fun _ => True) _ _ (stC ⟨i, 0, (false, nx, cs)⟩ (.slice A1 cs.length c1)) (by simp) trivial) rfl rfl (by intro y hy; simp [stC] at hy; rcases hy with rfl | rfl | rfl | rfl | rfl <;> rfl) (by simp only [maxLen]; omega) (by omega) (by simp; omega) ?_; intro A3 k3 c3 w3 hown3 hg3 hat3)
        obtain ⟨y1, y2⟩ := HYA.out.step HQ2.out hown3 hg3 hat3 HCSA.out
        go_ret
        exact ⟨A3, k3, c3, _, rfl, y1.wsl, by rw [← HF.out]; simp, y2⟩
    · obtain ⟨n', rest', hwf, hrest⟩ : ∃ n' rest', wayF (P.pgD c) key n' (childT (cellAt cs (belowN cs key)).2) = some rest' ∧ rest = ⟨i, belowN cs key, (leaf, nx, cs)⟩ :: rest' := by
        rcases HSTEP.out with h | h
        · exact absurd h.1 hend
        · exact h.2
      subst hrest
      have HWF := Lib.hid hwf
      have HF : Hid (done.map (·.1) ++ ⟨i, belowN cs key, (leaf, nx, cs)⟩ :: rest' = L) := HALL.out
      have hlf : leaf = false := by cases leaf with
        | true => exact absurd (.inl rfl) hend
        | false => rfl
      subst hlf
      have hcl : 0 < cs.length := List.length_pos_iff.2 fun e => hend (.inr e)
      have hcl0 : ¬ (cs.length : Int) = 0 := by omega
      clear HSTEP HALL hend hwf
      go_wp2_with fail
      generalize hW1 : w1.alloc (.cells #[.bool false, .int .i64 (nx : Int), .slice A1 cs.length c1] 36) = W1 at *
      refine (tbelow_any _ false nx _ cs key W1 (by omega) HCSA.out HOK.out.asc.rises).mono ?_
      rintro e w2 ⟨rfl, hb2⟩
      have HY2 := Lib.hid (HYA.out.later hb2)
      have HQ3 := Lib.hid (HQ2.out.trans (hb2.mono HQ2.out.size))
      have HCS2 : Hid (Cs (fun b => w.heap.size ≤ b ∧ b < w2.heap.size ∧ (Value.slice A done.length c').ownBlock ≠ some b) w2 (.slice A1 cs.length c1) cs) := (Sl.below HCSA.out hb2 fun b h => h.2.1).more fun b h => ⟨h.1, Nat.lt_of_lt_of_le h.2.1 hb2.size, h.2.2⟩
      have hb0 := HB0.out.later hb2
      have d0 : w2.cell? ⟨w1.heap.size, 0, none⟩ = some (.bool false) := hb0.cell 0
      have d1 : w2.cell? ⟨w1.heap.size, 1, none⟩ = some (.int .i64 (nx : Int)) := hb0.cell 1
      have d2 : w2.cell? ⟨w1.heap.size, 2, none⟩ = some (.slice A1 cs.length c1) := hb0.cell 2
      have hz2 := hb0.lt
      have HB2 := Lib.hid hb0
      have hbn : belowN cs key < cs.length := by
        have := findK_le cs key
        unfold belowN
        split
        · rename_i h; exact isK_lt h
        · omega
      clear hb0 hb2 HCSA HYA HQ2
      generalize hN : belowN cs key = N at *
      have hN0 : (0 : Int) ≤ (N : Int) := by omega
      have hN1 : (N : Int) < (cs.length : Int) := by omega
      have hcell := cellAt_get hbn
      have HCEL := Lib.hid hcell
      obtain ⟨bb, oo, rfl⟩ := HCS2.out.some hcl
      have hsm := chk_small none _ HOK.out.parts.2.1 _ (List.getElem_mem hbn)
      clear hcell
      go_wp2_with (at_builtin; refine wpList_append_sl _ rfl (.tmp 33) (.tmp 38) elemStep rfl (own_hold HY2.out.own ((Below.refl _ _).alloc (Nat.le_refl _) _)) (Sl.newb (S := fun _ => True) _ _ (stC ⟨i, N, (false, nx, cs)⟩ (.slice (some ⟨bb, oo, none⟩) cs.length c1)) (by simp) trivial) rfl rfl (by intro y hy; simp [stC] at hy; rcases hy with rfl | rfl | rfl | rfl | rfl <;> rfl) (by simp only [maxLen]; omega) (by omega) (by simp; omega) ?_; intro A3 k3 c3 w3 hown3 hg3 hat3; have hb3 := Blk.kept (HB2.out.alloc _) (own_hold HY2.out.own ((Below.refl _ _).alloc (Nat.le_refl _) _)) hg3 (by decide); have e2 : w3.cell? ⟨w1.heap.size, 2, none⟩ = some (.slice (some ⟨bb, oo, none⟩) cs.length c1) := hb3.cell 2; obtain ⟨y1, y2⟩ := HY2.out.step HQ3.out hown3 hg3 hat3 HCS2.out; have hc3 := Cs.get (y1.cs (⟨i, N, (false, nx, cs)⟩, .slice (some ⟨bb, oo, none⟩) cs.length c1) (by simp)) hbn; have f1 := hc3.1; have f2 := hc3.2; have Y1 := Lib.hid y1; have Y2 := Lib.hid y2; clear hb3 y1 y2 hc3 hown3 hg3 hat3)
      refine (tchild_any _ _ w3 (by omega)).mono ?_
      rintro e w4 ⟨rfl, hb4⟩
      have R4 : Hid (WaySt w w4 (P.pgD c) key L (.slice A3 k3 c3) (done ++ [(⟨i, N, (false, nx, cs)⟩, .slice (some ⟨bb, oo, none⟩) cs.length c1)]) rest' (childT cs[N].2) n') := by
        refine ⟨Y1.out.later hb4, ?_, ?_, Y2.out.trans (hb4.mono Y2.out.size), childT_i _⟩
        · have := HWF.out
          rw [HCEL.out] at this
          exact this
        · rw [List.map_append, List.append_assoc]
          exact HF.out
      obtain rfl : k3 = done.length + 1 := by have := own_len R4.out.own.own; simpa using this
      have hll : done.length + 1 ≤ L.length := by rw [← HF.out]; simp
      clear hb4 Y1 Y2
      go_wp2_with fail
      go_roundw
      case rel => exact ⟨A3, done.length + 1, c3, _, rest', _, n', rfl, rfl, R4⟩
      case measure => simp [sLen]; omega

set_option maxHeartbeats 2000000 in
theorem tdepth_any (g : Nat) (Z : Pz) (P : Pgr) (c : Int → List UInt8) (n0 : Nat) (L : List TStp) (w : World) (ht : Tg w g Z P c) (hw : wayF (P.pgD c) [] n0 0 = some L) (hL : L.length ≤ 100000) :
    Calls Tryz.prog 12 #[.pointer (some ⟨g, 0, none⟩)] w fun e w' => e = .returned (.int .i64 (L.length : Int)) ∧ Below w.heap.size w w' := by
  have HT := Lib.hid ht
  have HW := Lib.hid hw
  clear ht hw
  go_enter Tryz.func12, Tryz.ntmps12
  go_wp2_with fail
  refine (tway_any g Z P c [] n0 L w HT.out HW.out hL).mono ?_
  rintro e w1 ⟨A, k, c', ls, rfl, hs, hm, hb⟩
  have hk : k = L.length := by
    have := hs.sl
    obtain ⟨_, A', c2, hv, _⟩ := this
    injection hv with _ h2 _
    rw [h2, ← hm, List.length_map]
  subst hk
  go_wp2_with fail
  go_ret
  exact ⟨rfl, hb⟩
end Go.Proofs.YthbhkdhljlganaaGreatDoor

namespace Go.Proofs.YthbhkdhljlganaaGreatDoor
open Go Go.RowKit
set_option linter.unusedVariables false

/-- A page that is to be looked at, as a value. -/
def undV (u : Und) : Value := .agg #[.int .i64 u.id, .int .i64 (u.depth : Int), .string (st u.from_), .string (st u.to_), .bool u.open_]
theorem fitsT_cons {u : Und} {leaf : Bool} {n : Nat} {cs : List Cel} (h0 : ¬ ((0 < u.id ∧ cs = []) ∨ (leaf = false ∧ u.id = 0 ∧ cs.length < 2) ∨ (leaf = false ∧ n ≠ 0))) (hc : cs ≠ []) :
    fitsT u (leaf, n, cs) = ((leaf || decide ((cellAt cs 0).1 = u.from_)) && cs.all (fitCel u leaf)) := by
  unfold fitsT
  simp only
  rw [if_neg h0]
  cases cs with
  | nil => exact absurd rfl hc
  | cons c r => rfl
theorem all_take {p : Cel → Bool} {cs : List Cel} {i : Nat} (h : i < cs.length) (ht : (cs.take i).all p = true) : (cs.take (i + 1)).all p = p cs[i] := by
  rw [List.take_succ_eq_append_getElem h, List.all_append, ht]
  simp
theorem all_not {p : Cel → Bool} {cs : List Cel} {i : Nat} (h : i < cs.length) (hp : p cs[i] = false) : cs.all p = false := by
  rw [List.all_eq_false]
  exact ⟨cs[i], List.getElem_mem h, by simp [hp]⟩

/-- What the loop of fits knows. -/
structure FiSt (w wr : World) (u : Und) (leaf : Bool) (cs : List Cel) (i : Nat) : Prop where
  le : i ≤ cs.length
  all : (cs.take i).all (fitCel u leaf) = true
  below : Below w.heap.size w wr
def FiPost (b : Bool) (w : World) (e : Ending) (w' : World) : Prop := e = .returned (.bool b) ∧ Below w.heap.size w w'
set_option maxHeartbeats 8000000 in
set_option maxRecDepth 100000 in
theorem tfits_any (S : Nat → Prop) (u : Und) (leaf : Bool) (n : Nat) (v0 : Value) (cs : List Cel) (w : World) (hi : InI u.id) (hd : u.depth ≤ 1000000) (hn : n ≤ 1000000) (hl : cs.length ≤ 100000) (hv : ∀ c ∈ cs, c.2.length ≤ 1000) (hr : Cs S w v0 cs) :
    Calls Tryz.prog 74 #[undV u, .agg #[.bool leaf, .int .i64 (n : Int), v0]] w (FiPost (fitsT u (leaf, n, cs)) w) := by
  obtain ⟨uid, ud, uf, ut, uo⟩ := u
  unfold undV
  simp only at hi hd ⊢
  have HR := Lib.hid hr.lt
  have HV := Lib.hid hv
  obtain ⟨A, c0, rfl, _⟩ := hr.at
  have HU := Lib.hid ((Blk.new w 147 #[.int .i64 uid, .int .i64 (ud : Int), .string (st uf), .string (st ut), .bool uo]).alloc (.cells #[.bool leaf, .int .i64 (n : Int), .slice A cs.length c0] 36))
  have hx := (Blk.new (w.alloc (.cells #[.int .i64 uid, .int .i64 (ud : Int), .string (st uf), .string (st ut), .bool uo] 147)) 36 #[.bool leaf, .int .i64 (n : Int), .slice A cs.length c0])
  have HQ := Lib.hid (((Below.refl w.heap.size w).alloc (Nat.le_refl _) (.cells #[.int .i64 uid, .int .i64 (ud : Int), .string (st uf), .string (st ut), .bool uo] 147)).alloc (by simp) (.cells #[.bool leaf, .int .i64 (n : Int), .slice A cs.length c0] 36))
  have hsz0 : (w.alloc (.cells #[.int .i64 uid, .int .i64 (ud : Int), .string (st uf), .string (st ut), .bool uo] 147)).heap.size = w.heap.size + 1 := by simp
  rw [hsz0] at hx
  have HX := Lib.hid hx
  clear hr hv hsz0 hx
  have pu0 : (((w.alloc (.cells #[.int .i64 uid, .int .i64 (ud : Int), .string (st uf), .string (st ut), .bool uo] 147)).alloc (.cells #[.bool leaf, .int .i64 (n : Int), .slice A cs.length c0] 36))).cell? ⟨w.heap.size, 0, none⟩ = some (.int .i64 uid) := HU.out.cell 0
  have pu1 : (((w.alloc (.cells #[.int .i64 uid, .int .i64 (ud : Int), .string (st uf), .string (st ut), .bool uo] 147)).alloc (.cells #[.bool leaf, .int .i64 (n : Int), .slice A cs.length c0] 36))).cell? ⟨w.heap.size, 1, none⟩ = some (.int .i64 (ud : Int)) := HU.out.cell 1
  have pu2 : (((w.alloc (.cells #[.int .i64 uid, .int .i64 (ud : Int), .string (st uf), .string (st ut), .bool uo] 147)).alloc (.cells #[.bool leaf, .int .i64 (n : Int), .slice A cs.length c0] 36))).cell? ⟨w.heap.size, 2, none⟩ = some (.string (st uf)) := HU.out.cell 2
  have pu3 : (((w.alloc (.cells #[.int .i64 uid, .int .i64 (ud : Int), .string (st uf), .string (st ut), .bool uo] 147)).alloc (.cells #[.bool leaf, .int .i64 (n : Int), .slice A cs.length c0] 36))).cell? ⟨w.heap.size, 3, none⟩ = some (.string (st ut)) := HU.out.cell 3
  have pu4 : (((w.alloc (.cells #[.int .i64 uid, .int .i64 (ud : Int), .string (st uf), .string (st ut), .bool uo] 147)).alloc (.cells #[.bool leaf, .int .i64 (n : Int), .slice A cs.length c0] 36))).cell? ⟨w.heap.size, 4, none⟩ = some (.bool uo) := HU.out.cell 4
  have px0 : (((w.alloc (.cells #[.int .i64 uid, .int .i64 (ud : Int), .string (st uf), .string (st ut), .bool uo] 147)).alloc (.cells #[.bool leaf, .int .i64 (n : Int), .slice A cs.length c0] 36))).cell? ⟨w.heap.size + 1, 0, none⟩ = some (.bool leaf) := HX.out.cell 0
  have px1 : (((w.alloc (.cells #[.int .i64 uid, .int .i64 (ud : Int), .string (st uf), .string (st ut), .bool uo] 147)).alloc (.cells #[.bool leaf, .int .i64 (n : Int), .slice A cs.length c0] 36))).cell? ⟨w.heap.size + 1, 1, none⟩ = some (.int .i64 (n : Int)) := HX.out.cell 1
  have px2 : (((w.alloc (.cells #[.int .i64 uid, .int .i64 (ud : Int), .string (st uf), .string (st ut), .bool uo] 147)).alloc (.cells #[.bool leaf, .int .i64 (n : Int), .slice A cs.length c0] 36))).cell? ⟨w.heap.size + 1, 2, none⟩ = some (.slice A cs.length c0) := HX.out.cell 2
  go_enter Tryz.func74, Tryz.ntmps74
  by_cases hA : (0 < uid ∧ cs = []) ∨ (leaf = false ∧ uid = 0 ∧ cs.length < 2) ∨ (leaf = false ∧ n ≠ 0)
  · have hfit : fitsT ⟨uid, ud, uf, ut, uo⟩ (leaf, n, cs) = false := by unfold fitsT; simp only; rw [if_pos hA]
    generalize fitsT ⟨uid, ud, uf, ut, uo⟩ (leaf, n, cs) = B at *
    subst hfit
    rcases hA with ⟨h1, h2⟩ | ⟨h1, h2, h3⟩ | ⟨h1, h2⟩
    · subst h2
      go_wp2_with fail
      go_ret
      exact ⟨rfl, HQ.out⟩
    · subst h1 h2
      have h3' : (cs.length : Int) < 2 := by omega
      go_wp2_with fail
      go_ret
      exact ⟨rfl, HQ.out⟩
    · subst h1
      have h3 : ((n : Int) == 0) = false := beq_eq_false_iff_ne.2 (by omega)
      have h4 : ((n : Int) != 0) = true := by rw [bne_iff_ne]; omega
      by_cases h0 : uid = 0
      · subst h0
        go_wp2_with fail
        all_goals
          go_ret
          exact ⟨rfl, HQ.out⟩
      · have h5 : (uid == 0) = false := beq_eq_false_iff_ne.2 h0
        clear h0
        go_wp2_with fail
        all_goals
          go_ret
          exact ⟨rfl, HQ.out⟩
  · by_cases hc : cs = []
    · have hfit : fitsT ⟨uid, ud, uf, ut, uo⟩ (leaf, n, cs) = true := by unfold fitsT; simp only; rw [if_neg hA]; subst hc; rfl
      generalize fitsT ⟨uid, ud, uf, ut, uo⟩ (leaf, n, cs) = B at *
      subst hfit hc
      have h1 : decide (0 < uid) = false := decide_eq_false (by simp at hA; omega)
      cases leaf with
      | true =>
        clear hA
        go_wp2_with fail
        go_ret
        exact ⟨rfl, HQ.out⟩
      | false =>
        have h2 : ((uid == 0) = false) := beq_eq_false_iff_ne.2 (fun e => hA (.inr (.inl ⟨rfl, e, by simp⟩)))
        have h3 : ((n : Int) != 0) = false := by
          rw [bne_eq_false_iff_eq]
          simp at hA
          omega
        clear hA
        go_wp2_with fail
        go_ret
        exact ⟨rfl, HQ.out⟩
    · have hfit := fitsT_cons (u := ⟨uid, ud, uf, ut, uo⟩) hA hc
      simp only at hfit
      have hcl : 0 < cs.length := List.length_pos_iff.2 hc
      have h1 : ((cs.length : Int) == 0) = false := beq_eq_false_iff_ne.2 (by omega)
      obtain ⟨b0, o0, rfl⟩ := Cs.some HR.out hcl
      have g0 := (Cs.get (Sl.below HR.out HQ.out fun b h => h) hcl).1
      rw [Nat.zero_mul, Nat.add_zero] at g0
      obtain ⟨k0, hk0⟩ : ∃ k, cs[0].1 = k := ⟨_, rfl⟩
      have hca : (cellAt cs 0).1 = k0 := by rw [cellAt_get hcl, hk0]
      rw [hca] at hfit
      rw [hk0] at g0
      have HF := Lib.hid hfit
      have HA := Lib.hid hA
      clear hfit hk0 hca hA hc
      go_upto_block 0 with (fail)
      go_cut [] (fun wx => Hid ((leaf || decide (k0 = uf)) = true) ∧ Hid (Below (w.heap.size + 1 + 1) ((w.alloc (.cells #[.int .i64 uid, .int .i64 (ud : Int), .string (st uf), .string (st ut), .bool uo] 147)).alloc (.cells #[.bool leaf, .int .i64 (n : Int), .slice (some ⟨b0, o0, none⟩) cs.length c0] 36)) wx))
      case first =>
        have HB0 := Lib.hid (Below.refl (w.heap.size + 1 + 1) ((w.alloc (.cells #[.int .i64 uid, .int .i64 (ud : Int), .string (st uf), .string (st ut), .bool uo] 147)).alloc (.cells #[.bool leaf, .int .i64 (n : Int), .slice (some ⟨b0, o0, none⟩) cs.length c0] 36)))
        cases leaf with
        | true =>
          go_wp2_with fail
          all_goals
            go_quiet (fail)
            go_wp2_with fail
            go_meet
            exact ⟨rfl, below_drewN HB0.out _⟩
        | false =>
          have hA := HA.out
          have h3 : ((n : Int) != 0) = false := by
            rw [bne_eq_false_iff_eq]
            simp at hA
            omega
          have h2 : uid = 0 → decide ((cs.length : Int) < 2) = false := fun e => by simp [e] at hA; rw [decide_eq_false_iff_not]; omega
          clear hA
          by_cases h0 : uid = 0
          · have h4 := h2 h0
            subst h0
            clear h2
            by_cases he : k0 = uf
            · have e1 : (k0 != uf) = false := by rw [bne_eq_false_iff_eq]; exact he
              have e3 : (k0 == uf) = true := by rw [beq_iff_eq]; exact he
              have e2 : Hid ((false || decide (k0 = uf)) = true) := by simp [Hid, he]
              clear he
              go_wp2_with fail
              all_goals
                go_quiet (fail)
                go_wp2_with fail
                go_meet
                exact ⟨e2.out, below_drewN HB0.out _⟩
            · have e1 : (k0 != uf) = true := by rw [bne_iff_ne]; exact he
              have e3 : (k0 == uf) = false := beq_eq_false_iff_ne.2 he
              have hf0 : fitsT ⟨0, ud, uf, ut, uo⟩ (false, n, cs) = false := by rw [HF.out]; simp [he]
              have HF0 := Lib.hid hf0
              clear he hf0 HF
              go_wp2_with fail
              all_goals
                go_quiet (fail)
                go_wp2_with fail
                go_ret
                exact ⟨by rw [HF0.out]; rfl, below_drewN HQ.out _⟩
          · have h5 : (uid == 0) = false := beq_eq_false_iff_ne.2 h0
            clear h0 h2
            by_cases he : k0 = uf
            · have e1 : (k0 != uf) = false := by rw [bne_eq_false_iff_eq]; exact he
              have e3 : (k0 == uf) = true := by rw [beq_iff_eq]; exact he
              have e2 : Hid ((false || decide (k0 = uf)) = true) := by simp [Hid, he]
              clear he
              go_wp2_with fail
              all_goals
                go_quiet (fail)
                go_wp2_with fail
                go_meet
                exact ⟨e2.out, below_drewN HB0.out _⟩
            · have e1 : (k0 != uf) = true := by rw [bne_iff_ne]; exact he
              have e3 : (k0 == uf) = false := beq_eq_false_iff_ne.2 he
              have hf0 : fitsT ⟨uid, ud, uf, ut, uo⟩ (false, n, cs) = false := by rw [HF.out]; simp [he]
              have HF0 := Lib.hid hf0
              clear he hf0 HF
              go_wp2_with fail
              all_goals
                go_quiet (fail)
                go_wp2_with fail
                go_ret
                exact ⟨by rw [HF0.out]; rfl, below_drewN HQ.out _⟩
      case rest =>
        obtain ⟨h1, h2⟩ := hcut
        have hfa : fitsT ⟨uid, ud, uf, ut, uo⟩ (leaf, n, cs) = cs.all (fitCel ⟨uid, ud, uf, ut, uo⟩ leaf) := by rw [HF.out, h1.out]; rfl
        have HFA := Lib.hid hfa
        have hsW : ((w.alloc (.cells #[.int .i64 uid, .int .i64 (ud : Int), .string (st uf), .string (st ut), .bool uo] 147)).alloc (.cells #[.bool leaf, .int .i64 (n : Int), .slice (some ⟨b0, o0, none⟩) cs.length c0] 36)).heap.size = w.heap.size + 1 + 1 := by simp
        have HU2 := Lib.hid (HU.out.later (h2.out.mono (by rw [hsW]; exact Nat.le_refl _)))
        have HX2 := Lib.hid (HX.out.later (h2.out.mono (by rw [hsW]; exact Nat.le_refl _)))
        have HQ2 := Lib.hid (HQ.out.trans (h2.out.mono (by omega)))
        have HR2 := Lib.hid (Sl.below HR.out HQ2.out fun b h => h)
        clear hfa h1 h2 HF HA pu0 pu1 pu2 pu3 pu4 px0 px1 px2 g0 HU HX HQ hsW
        generalize wc = W at *
        have px2 : W.cell? ⟨w.heap.size + 1, 2, none⟩ = some (.slice (some ⟨b0, o0, none⟩) cs.length c0) := HX2.out.cell 2
        have R0 : Hid (FiSt W W ⟨uid, ud, uf, ut, uo⟩ leaf cs 0) := ⟨Nat.zero_le _, rfl, Below.refl _ _⟩
        go_wp2_with fail
        go_loopw [59] (fun iv wr => ∃ i : Nat, iv = .int .i64 (i : Int) ∧ Hid (FiSt W wr ⟨uid, ud, uf, ut, uo⟩ leaf cs i)) (fun iv _ => cs.length - (intOf iv).toNat)
        case atStart => exact ⟨0, rfl, R0⟩
        case round =>
          obtain ⟨i, rfl, R⟩ := hrel
          clear R0 px2
          have HRR := Lib.hid (Sl.below HR2.out (R.out.below.mono HQ2.out.size) fun b h => h)
          have hle := R.out.le
          by_cases hlt : i < cs.length
          · have hrd := Cs.get HRR.out hlt
            have hcv := HV.out cs[i] (List.getElem_mem hlt)
            have HN1 : fitCel ⟨uid, ud, uf, ut, uo⟩ leaf cs[i] = false → fitsT ⟨uid, ud, uf, ut, uo⟩ (leaf, n, cs) = false := fun h => by rw [HFA.out]; exact all_not hlt h
            have HN2 : fitCel ⟨uid, ud, uf, ut, uo⟩ leaf cs[i] = true → (cs.take (i + 1)).all (fitCel ⟨uid, ud, uf, ut, uo⟩ leaf) = true := fun h => by rw [all_take hlt R.out.all, h]
            generalize hci : cs[i] = ci at *
            obtain ⟨ck, cv⟩ := ci
            obtain ⟨r0, r1⟩ := hrd
            simp only at r0 r1 hcv
            have hbc := Blk.new wr 81 #[.string (st ck), .string (st cv)]
            have HQ3 := Lib.hid (R.out.below.alloc R.out.below.size (.cells #[.string (st ck), .string (st cv)] 81))
            have HU3 := Lib.hid ((HU2.out.later R.out.below).alloc (.cells #[.string (st ck), .string (st cv)] 81))
            have HX3 := Lib.hid ((HX2.out.later R.out.below).alloc (.cells #[.string (st ck), .string (st cv)] 81))
            have hi0 : (0 : Int) ≤ (i : Int) := by omega
            have hi1 : (i : Int) < (cs.length : Int) := by omega
            have HN1h := Lib.hid HN1
            have HN2h := Lib.hid HN2
            have HC3 := Lib.hid hbc
            clear hci HN1 HN2 R hbc HFA
            have pu0 : ((wr.alloc (.cells #[.string (st ck), .string (st cv)] 81))).cell? ⟨w.heap.size, 0, none⟩ = some (.int .i64 uid) := HU3.out.cell 0
            have pu1 : ((wr.alloc (.cells #[.string (st ck), .string (st cv)] 81))).cell? ⟨w.heap.size, 1, none⟩ = some (.int .i64 (ud : Int)) := HU3.out.cell 1
            have pu2 : ((wr.alloc (.cells #[.string (st ck), .string (st cv)] 81))).cell? ⟨w.heap.size, 2, none⟩ = some (.string (st uf)) := HU3.out.cell 2
            have pu3 : ((wr.alloc (.cells #[.string (st ck), .string (st cv)] 81))).cell? ⟨w.heap.size, 3, none⟩ = some (.string (st ut)) := HU3.out.cell 3
            have pu4 : ((wr.alloc (.cells #[.string (st ck), .string (st cv)] 81))).cell? ⟨w.heap.size, 4, none⟩ = some (.bool uo) := HU3.out.cell 4
            have px0 : ((wr.alloc (.cells #[.string (st ck), .string (st cv)] 81))).cell? ⟨w.heap.size + 1, 0, none⟩ = some (.bool leaf) := HX3.out.cell 0
            have px1 : ((wr.alloc (.cells #[.string (st ck), .string (st cv)] 81))).cell? ⟨w.heap.size + 1, 1, none⟩ = some (.int .i64 (n : Int)) := HX3.out.cell 1
            have px2 : ((wr.alloc (.cells #[.string (st ck), .string (st cv)] 81))).cell? ⟨w.heap.size + 1, 2, none⟩ = some (.slice (some ⟨b0, o0, none⟩) cs.length c0) := HX3.out.cell 2
            have pc0 : ((wr.alloc (.cells #[.string (st ck), .string (st cv)] 81))).cell? ⟨wr.heap.size, 0, none⟩ = some (.string (st ck)) := HC3.out.cell 0
            have pc1 : ((wr.alloc (.cells #[.string (st ck), .string (st cv)] 81))).cell? ⟨wr.heap.size, 1, none⟩ = some (.string (st cv)) := HC3.out.cell 1
            have HCH := Lib.hid (fun W : World => tchild_any ck cv W (by omega))
            unfold fitCel at HN1h HN2h
            simp only at HN1h HN2h
            obtain ⟨x, hx⟩ : ∃ x, childT cv = x := ⟨_, rfl⟩
            have hxr := childT_rng cv
            rw [hx] at HCH HN1h HN2h hxr
            clear hx
            clear pu0 pu1 px1 px2
            go_wp2_with fail
            generalize hW3 : wr.alloc (.cells #[.string (st ck), .string (st cv)] 81) = W3 at *
            cases hl1 : Op.bytesLess ck uf with
            | true =>
              have HNO := Lib.hid (HN1h.out (by rw [hl1]; rfl))
              refine wp_region_grow_lit (by kernel_rfl) (by kernel_rfl) ?_
              apply Exists.intro
              apply And.intro
              · repeat (first
                  | (apply wpGrow_skip rfl
                     intro K hK
                     go_simp
                     refine hK _ ?_
                     clear hK K)
                  | (apply wpGrow_is rfl
                     · intro wg hwg _
                       have q0 := cell_later hwg pc0
                       have q1 := cell_later hwg pc1
                       have q2 := cell_later hwg pu2
                       have q3 := cell_later hwg pu3
                       have q4 := cell_later hwg pu4
                       have q5 := cell_later hwg px0
                       unfold grows
                       go_simp
                       first
                         | exact grows_value _ _
                         | (apply grows_call; go_at_call 73; exact HCH.out _)
                     intro K hK
                     go_simp
                     refine hK _ ?_
                     clear hK K))
                refine wpGrow_end (fun wg hwg _ => ?_)
                go_wp2_with fail
                go_ret
                exact ⟨by rw [HNO.out]; rfl, HQ2.out.trans ((HQ3.out.trans (hwg.mono HQ3.out.size)).mono HQ2.out.size)⟩
              · apply And.intro
                · repeat (first | exact trivial | (refine ⟨Stays.is _, ?_⟩) | (refine ⟨Stays.bs _, ?_⟩) | (refine ⟨Stays.pg _ _ _, ?_⟩))
                · rfl
            | false =>
              cases uo with
              | true =>
                have HT : Hid (True) := trivial
                cases leaf with
                | true =>
                  have HYES := Lib.hid (HN2h.out (by rw [hl1, Bool.true_or]; simp))
                  refine wp_region_grow_lit (by kernel_rfl) (by kernel_rfl) ?_
                  apply Exists.intro
                  apply And.intro
                  · repeat (first
                      | (apply wpGrow_skip rfl
                         intro K hK
                         go_simp
                         refine hK _ ?_
                         clear hK K)
                      | (apply wpGrow_is rfl
                         · intro wg hwg _
                           have q0 := cell_later hwg pc0
                           have q1 := cell_later hwg pc1
                           have q2 := cell_later hwg pu2
                           have q3 := cell_later hwg pu3
                           have q4 := cell_later hwg pu4
                           have q5 := cell_later hwg px0
                           unfold grows
                           go_simp
                           first
                             | exact grows_value _ _
                             | (apply grows_call; go_at_call 73; exact HCH.out _)
                         intro K hK
                         go_simp
                         refine hK _ ?_
                         clear hK K))
                    refine wpGrow_end (fun wg hwg _ => ?_)
                    go_wp2_with fail
                    go_roundw
                    case rel => exact ⟨i + 1, by go_num, ⟨by omega, HYES.out, HQ3.out.trans (hwg.mono HQ3.out.size)⟩⟩
                    case measure => simp [intOf]; omega
                  · apply And.intro
                    · repeat (first | exact trivial | (refine ⟨Stays.is _, ?_⟩) | (refine ⟨Stays.bs _, ?_⟩) | (refine ⟨Stays.pg _ _ _, ?_⟩))
                    · rfl
                | false =>
                  by_cases hx0 : 0 ≤ x
                  · have hx9 : x < 90 := by omega
                    have gx : ¬ x < 0 := by omega
                    have gy : decide (x < 0) = false := decide_eq_false gx
                    obtain ⟨m, rfl⟩ : ∃ m : Nat, x = (m : Int) := ⟨x.toNat, by omega⟩
                    have gw : IntKind.u64.wrap (m : Int) = (m : Int) := wrap_u64 (by omega) (by unfold U64; omega)
                    have hm10 : (varB m).length ≤ 10 := varB_le10 (by unfold U64; omega)
                    have HPV := Lib.hid (fun W : World => putVar_any (fun _ => False) (.slice none 0 0) [] m W (by unfold U64; omega) (by rw [List.nil_append]; omega) (Bs.nilv _ _))
                    rw [Int.toNat_natCast] at HN1h HN2h
                    by_cases hv : varB m = cv
                    · have HYES := Lib.hid (HN2h.out (by rw [hl1, Bool.true_or]; simp [hv]))
                      have v1 : (varB m == cv) = true := by rw [beq_iff_eq]; exact hv
                      have v2 : (varB m != cv) = false := by rw [bne_eq_false_iff_eq]; exact hv
                      clear hv hxr hx0
                      refine wp_region_grow_lit (by kernel_rfl) (by kernel_rfl) ?_
                      apply Exists.intro
                      apply And.intro
                      · repeat (first
                          | (apply wpGrow_skip rfl
                             intro K hK
                             go_simp
                             refine hK _ ?_
                             clear hK K)
                          | (apply wpGrow_is rfl
                             · intro wg hwg _
                               have q0 := cell_later hwg pc0
                               have q1 := cell_later hwg pc1
                               have q2 := cell_later hwg pu2
                               have q3 := cell_later hwg pu3
                               have q4 := cell_later hwg pu4
                               have q5 := cell_later hwg px0
                               unfold grows
                               go_simp
                               first
                                 | exact grows_value _ _
                                 | (apply grows_call; go_at_call 73; exact HCH.out _)
                             intro K hK
                             go_simp
                             refine hK _ ?_
                             clear hK K))
                        apply wpGrow_rel (V := VBs (varB m)) rfl
                        · intro wg hwg hf
                          unfold grows
                          go_simp
                          exact ⟨Below.refl _ _, (HPV.out wg).mono fun e w' ⟨A, k, c, he, ho, hbb⟩ => ⟨_, he, hbb, by have := ho.bs.any; simpa [VBs] using this⟩⟩
                        intro xv hxv K hK
                        obtain ⟨wx, _, hbx⟩ := hxv
                        obtain ⟨A35, c35, rfl, _⟩ := Bs.at hbx
                        go_simp
                        refine hK _ ?_
                        clear hK K hbx
                        apply wpGrow_is rfl
                        · intro wg hwg hf
                          have hb35 : VBs (varB m) (.slice A35 (varB m).length c35) wg := hf ⟨35, .data⟩ (by simp) rfl _ _ (by kernel_rfl)
                          have hcv35 := run_string_of_bs (P := Tryz.prog) hb35 tB tU tS
                          clear hf hb35
                          unfold grows
                          go_simp
                          exact grows_value _ _
                        intro K hK
                        go_simp
                        refine hK _ ?_
                        clear hK K
                        repeat (first
                          | (apply wpGrow_skip rfl
                             intro K hK
                             go_simp
                             refine hK _ ?_
                             clear hK K)
                          | (apply wpGrow_is rfl
                             · intro wg hwg _
                               have q0 := cell_later hwg pc0
                               have q1 := cell_later hwg pc1
                               have q2 := cell_later hwg pu2
                               have q3 := cell_later hwg pu3
                               have q4 := cell_later hwg pu4
                               have q5 := cell_later hwg px0
                               unfold grows
                               go_simp
                               first
                                 | exact grows_value _ _
                                 | (fail)
                             intro K hK
                             go_simp
                             refine hK _ ?_
                             clear hK K))
                        refine wpGrow_end (fun wg hwg _ => ?_)
                        go_wp2_with fail
                        go_roundw
                        case rel => exact ⟨i + 1, by go_num, ⟨by omega, HYES.out, HQ3.out.trans (hwg.mono HQ3.out.size)⟩⟩
                        case measure => simp [intOf]; omega
                      · apply And.intro
                        · repeat (first | exact trivial | (refine ⟨Stays.is _, ?_⟩) | (refine ⟨Stays.bs _, ?_⟩) | (refine ⟨Stays.pg _ _ _, ?_⟩))
                        · rfl
                    · have HNO := Lib.hid (HN1h.out (by rw [hl1, Bool.true_or]; simp [hv]))
                      have v1 : (varB m == cv) = false := beq_eq_false_iff_ne.2 hv
                      have v2 : (varB m != cv) = true := by rw [bne_iff_ne]; exact hv
                      clear hv hxr hx0
                      refine wp_region_grow_lit (by kernel_rfl) (by kernel_rfl) ?_
                      apply Exists.intro
                      apply And.intro
                      · repeat (first
                          | (apply wpGrow_skip rfl
                             intro K hK
                             go_simp
                             refine hK _ ?_
                             clear hK K)
                          | (apply wpGrow_is rfl
                             · intro wg hwg _
                               have q0 := cell_later hwg pc0
                               have q1 := cell_later hwg pc1
                               have q2 := cell_later hwg pu2
                               have q3 := cell_later hwg pu3
                               have q4 := cell_later hwg pu4
                               have q5 := cell_later hwg px0
                               unfold grows
                               go_simp
                               first
                                 | exact grows_value _ _
                                 | (apply grows_call; go_at_call 73; exact HCH.out _)
                             intro K hK
                             go_simp
                             refine hK _ ?_
                             clear hK K))
                        apply wpGrow_rel (V := VBs (varB m)) rfl
                        · intro wg hwg hf
                          unfold grows
                          go_simp
                          exact ⟨Below.refl _ _, (HPV.out wg).mono fun e w' ⟨A, k, c, he, ho, hbb⟩ => ⟨_, he, hbb, by have := ho.bs.any; simpa [VBs] using this⟩⟩
                        intro xv hxv K hK
                        obtain ⟨wx, _, hbx⟩ := hxv
                        obtain ⟨A35, c35, rfl, _⟩ := Bs.at hbx
                        go_simp
                        refine hK _ ?_
                        clear hK K hbx
                        apply wpGrow_is rfl
                        · intro wg hwg hf
                          have hb35 : VBs (varB m) (.slice A35 (varB m).length c35) wg := hf ⟨35, .data⟩ (by simp) rfl _ _ (by kernel_rfl)
                          have hcv35 := run_string_of_bs (P := Tryz.prog) hb35 tB tU tS
                          clear hf hb35
                          unfold grows
                          go_simp
                          exact grows_value _ _
                        intro K hK
                        go_simp
                        refine hK _ ?_
                        clear hK K
                        repeat (first
                          | (apply wpGrow_skip rfl
                             intro K hK
                             go_simp
                             refine hK _ ?_
                             clear hK K)
                          | (apply wpGrow_is rfl
                             · intro wg hwg _
                               have q0 := cell_later hwg pc0
                               have q1 := cell_later hwg pc1
                               have q2 := cell_later hwg pu2
                               have q3 := cell_later hwg pu3
                               have q4 := cell_later hwg pu4
                               have q5 := cell_later hwg px0
                               unfold grows
                               go_simp
                               first
                                 | exact grows_value _ _
                                 | (fail)
                             intro K hK
                             go_simp
                             refine hK _ ?_
                             clear hK K))
                        refine wpGrow_end (fun wg hwg _ => ?_)
                        go_wp2_with fail
                        go_ret
                        exact ⟨by rw [HNO.out]; rfl, HQ2.out.trans ((HQ3.out.trans (hwg.mono HQ3.out.size)).mono HQ2.out.size)⟩
                      · apply And.intro
                        · repeat (first | exact trivial | (refine ⟨Stays.is _, ?_⟩) | (refine ⟨Stays.bs _, ?_⟩) | (refine ⟨Stays.pg _ _ _, ?_⟩))
                        · rfl
                  · have gx : x < 0 := by omega
                    have HNO := Lib.hid (HN1h.out (by rw [hl1, Bool.true_or]; simp; omega))
                    clear hxr hx0
                    refine wp_region_grow_lit (by kernel_rfl) (by kernel_rfl) ?_
                    apply Exists.intro
                    apply And.intro
                    · repeat (first
                        | (apply wpGrow_skip rfl
                           intro K hK
                           go_simp
                           refine hK _ ?_
                           clear hK K)
                        | (apply wpGrow_is rfl
                           · intro wg hwg _
                             have q0 := cell_later hwg pc0
                             have q1 := cell_later hwg pc1
                             have q2 := cell_later hwg pu2
                             have q3 := cell_later hwg pu3
                             have q4 := cell_later hwg pu4
                             have q5 := cell_later hwg px0
                             unfold grows
                             go_simp
                             first
                               | exact grows_value _ _
                               | (apply grows_call; go_at_call 73; exact HCH.out _)
                           intro K hK
                           go_simp
                           refine hK _ ?_
                           clear hK K))
                      refine wpGrow_end (fun wg hwg _ => ?_)
                      go_wp2_with fail
                      go_ret
                      exact ⟨by rw [HNO.out]; rfl, HQ2.out.trans ((HQ3.out.trans (hwg.mono HQ3.out.size)).mono HQ2.out.size)⟩
                    · apply And.intro
                      · repeat (first | exact trivial | (refine ⟨Stays.is _, ?_⟩) | (refine ⟨Stays.bs _, ?_⟩) | (refine ⟨Stays.pg _ _ _, ?_⟩))
                      · rfl
              | false =>
                cases hl2 : Op.bytesLess ck ut with
                | true => 
                  cases leaf with
                  | true =>
                    have HYES := Lib.hid (HN2h.out (by rw [hl1, hl2]; simp))
                    refine wp_region_grow_lit (by kernel_rfl) (by kernel_rfl) ?_
                    apply Exists.intro
                    apply And.intro
                    · repeat (first
                        | (apply wpGrow_skip rfl
                           intro K hK
                           go_simp
                           refine hK _ ?_
                           clear hK K)
                        | (apply wpGrow_is rfl
                           · intro wg hwg _
                             have q0 := cell_later hwg pc0
                             have q1 := cell_later hwg pc1
                             have q2 := cell_later hwg pu2
                             have q3 := cell_later hwg pu3
                             have q4 := cell_later hwg pu4
                             have q5 := cell_later hwg px0
                             unfold grows
                             go_simp
                             first
                               | exact grows_value _ _
                               | (apply grows_call; go_at_call 73; exact HCH.out _)
                           intro K hK
                           go_simp
                           refine hK _ ?_
                           clear hK K))
                      refine wpGrow_end (fun wg hwg _ => ?_)
                      go_wp2_with fail
                      go_roundw
                      case rel => exact ⟨i + 1, by go_num, ⟨by omega, HYES.out, HQ3.out.trans (hwg.mono HQ3.out.size)⟩⟩
                      case measure => simp [intOf]; omega
                    · apply And.intro
                      · repeat (first | exact trivial | (refine ⟨Stays.is _, ?_⟩) | (refine ⟨Stays.bs _, ?_⟩) | (refine ⟨Stays.pg _ _ _, ?_⟩))
                      · rfl
                  | false =>
                    by_cases hx0 : 0 ≤ x
                    · have hx9 : x < 90 := by omega
                      have gx : ¬ x < 0 := by omega
                      have gy : decide (x < 0) = false := decide_eq_false gx
                      obtain ⟨m, rfl⟩ : ∃ m : Nat, x = (m : Int) := ⟨x.toNat, by omega⟩
                      have gw : IntKind.u64.wrap (m : Int) = (m : Int) := wrap_u64 (by omega) (by unfold U64; omega)
                      have hm10 : (varB m).length ≤ 10 := varB_le10 (by unfold U64; omega)
                      have HPV := Lib.hid (fun W : World => putVar_any (fun _ => False) (.slice none 0 0) [] m W (by unfold U64; omega) (by rw [List.nil_append]; omega) (Bs.nilv _ _))
                      rw [Int.toNat_natCast] at HN1h HN2h
                      by_cases hv : varB m = cv
                      · have HYES := Lib.hid (HN2h.out (by rw [hl1, hl2]; simp [hv]))
                        have v1 : (varB m == cv) = true := by rw [beq_iff_eq]; exact hv
                        have v2 : (varB m != cv) = false := by rw [bne_eq_false_iff_eq]; exact hv
                        clear hv hxr hx0
                        refine wp_region_grow_lit (by kernel_rfl) (by kernel_rfl) ?_
                        apply Exists.intro
                        apply And.intro
                        · repeat (first
                            | (apply wpGrow_skip rfl
                               intro K hK
                               go_simp
                               refine hK _ ?_
                               clear hK K)
                            | (apply wpGrow_is rfl
                               · intro wg hwg _
                                 have q0 := cell_later hwg pc0
                                 have q1 := cell_later hwg pc1
                                 have q2 := cell_later hwg pu2
                                 have q3 := cell_later hwg pu3
                                 have q4 := cell_later hwg pu4
                                 have q5 := cell_later hwg px0
                                 unfold grows
                                 go_simp
                                 first
                                   | exact grows_value _ _
                                   | (apply grows_call; go_at_call 73; exact HCH.out _)
                               intro K hK
                               go_simp
                               refine hK _ ?_
                               clear hK K))
                          apply wpGrow_rel (V := VBs (varB m)) rfl
                          · intro wg hwg hf
                            unfold grows
                            go_simp
                            exact ⟨Below.refl _ _, (HPV.out wg).mono fun e w' ⟨A, k, c, he, ho, hbb⟩ => ⟨_, he, hbb, by have := ho.bs.any; simpa [VBs] using this⟩⟩
                          intro xv hxv K hK
                          obtain ⟨wx, _, hbx⟩ := hxv
                          obtain ⟨A35, c35, rfl, _⟩ := Bs.at hbx
                          go_simp
                          refine hK _ ?_
                          clear hK K hbx
                          apply wpGrow_is rfl
                          · intro wg hwg hf
                            have hb35 : VBs (varB m) (.slice A35 (varB m).length c35) wg := hf ⟨35, .data⟩ (by simp) rfl _ _ (by kernel_rfl)
                            have hcv35 := run_string_of_bs (P := Tryz.prog) hb35 tB tU tS
                            clear hf hb35
                            unfold grows
                            go_simp
                            exact grows_value _ _
                          intro K hK
                          go_simp
                          refine hK _ ?_
                          clear hK K
                          repeat (first
                            | (apply wpGrow_skip rfl
                               intro K hK
                               go_simp
                               refine hK _ ?_
                               clear hK K)
                            | (apply wpGrow_is rfl
                               · intro wg hwg _
                                 have q0 := cell_later hwg pc0
                                 have q1 := cell_later hwg pc1
                                 have q2 := cell_later hwg pu2
                                 have q3 := cell_later hwg pu3
                                 have q4 := cell_later hwg pu4
                                 have q5 := cell_later hwg px0
                                 unfold grows
                                 go_simp
                                 first
                                   | exact grows_value _ _
                                   | (fail)
                               intro K hK
                               go_simp
                               refine hK _ ?_
                               clear hK K))
                          refine wpGrow_end (fun wg hwg _ => ?_)
                          go_wp2_with fail
                          go_roundw
                          case rel => exact ⟨i + 1, by go_num, ⟨by omega, HYES.out, HQ3.out.trans (hwg.mono HQ3.out.size)⟩⟩
                          case measure => simp [intOf]; omega
                        · apply And.intro
                          · repeat (first | exact trivial | (refine ⟨Stays.is _, ?_⟩) | (refine ⟨Stays.bs _, ?_⟩) | (refine ⟨Stays.pg _ _ _, ?_⟩))
                          · rfl
                      · have HNO := Lib.hid (HN1h.out (by rw [hl1, hl2]; simp [hv]))
                        have v1 : (varB m == cv) = false := beq_eq_false_iff_ne.2 hv
                        have v2 : (varB m != cv) = true := by rw [bne_iff_ne]; exact hv
                        clear hv hxr hx0
                        refine wp_region_grow_lit (by kernel_rfl) (by kernel_rfl) ?_
                        apply Exists.intro
                        apply And.intro
                        · repeat (first
                            | (apply wpGrow_skip rfl
                               intro K hK
                               go_simp
                               refine hK _ ?_
                               clear hK K)
                            | (apply wpGrow_is rfl
                               · intro wg hwg _
                                 have q0 := cell_later hwg pc0
                                 have q1 := cell_later hwg pc1
                                 have q2 := cell_later hwg pu2
                                 have q3 := cell_later hwg pu3
                                 have q4 := cell_later hwg pu4
                                 have q5 := cell_later hwg px0
                                 unfold grows
                                 go_simp
                                 first
                                   | exact grows_value _ _
                                   | (apply grows_call; go_at_call 73; exact HCH.out _)
                               intro K hK
                               go_simp
                               refine hK _ ?_
                               clear hK K))
                          apply wpGrow_rel (V := VBs (varB m)) rfl
                          · intro wg hwg hf
                            unfold grows
                            go_simp
                            exact ⟨Below.refl _ _, (HPV.out wg).mono fun e w' ⟨A, k, c, he, ho, hbb⟩ => ⟨_, he, hbb, by have := ho.bs.any; simpa [VBs] using this⟩⟩
                          intro xv hxv K hK
                          obtain ⟨wx, _, hbx⟩ := hxv
                          obtain ⟨A35, c35, rfl, _⟩ := Bs.at hbx
                          go_simp
                          refine hK _ ?_
                          clear hK K hbx
                          apply wpGrow_is rfl
                          · intro wg hwg hf
                            have hb35 : VBs (varB m) (.slice A35 (varB m).length c35) wg := hf ⟨35, .data⟩ (by simp) rfl _ _ (by kernel_rfl)
                            have hcv35 := run_string_of_bs (P := Tryz.prog) hb35 tB tU tS
                            clear hf hb35
                            unfold grows
                            go_simp
                            exact grows_value _ _
                          intro K hK
                          go_simp
                          refine hK _ ?_
                          clear hK K
                          repeat (first
                            | (apply wpGrow_skip rfl
                               intro K hK
                               go_simp
                               refine hK _ ?_
                               clear hK K)
                            | (apply wpGrow_is rfl
                               · intro wg hwg _
                                 have q0 := cell_later hwg pc0
                                 have q1 := cell_later hwg pc1
                                 have q2 := cell_later hwg pu2
                                 have q3 := cell_later hwg pu3
                                 have q4 := cell_later hwg pu4
                                 have q5 := cell_later hwg px0
                                 unfold grows
                                 go_simp
                                 first
                                   | exact grows_value _ _
                                   | (fail)
                               intro K hK
                               go_simp
                               refine hK _ ?_
                               clear hK K))
                          refine wpGrow_end (fun wg hwg _ => ?_)
                          go_wp2_with fail
                          go_ret
                          exact ⟨by rw [HNO.out]; rfl, HQ2.out.trans ((HQ3.out.trans (hwg.mono HQ3.out.size)).mono HQ2.out.size)⟩
                        · apply And.intro
                          · repeat (first | exact trivial | (refine ⟨Stays.is _, ?_⟩) | (refine ⟨Stays.bs _, ?_⟩) | (refine ⟨Stays.pg _ _ _, ?_⟩))
                          · rfl
                    · have gx : x < 0 := by omega
                      have HNO := Lib.hid (HN1h.out (by rw [hl1, hl2]; simp; omega))
                      clear hxr hx0
                      refine wp_region_grow_lit (by kernel_rfl) (by kernel_rfl) ?_
                      apply Exists.intro
                      apply And.intro
                      · repeat (first
                          | (apply wpGrow_skip rfl
                             intro K hK
                             go_simp
                             refine hK _ ?_
                             clear hK K)
                          | (apply wpGrow_is rfl
                             · intro wg hwg _
                               have q0 := cell_later hwg pc0
                               have q1 := cell_later hwg pc1
                               have q2 := cell_later hwg pu2
                               have q3 := cell_later hwg pu3
                               have q4 := cell_later hwg pu4
                               have q5 := cell_later hwg px0
                               unfold grows
                               go_simp
                               first
                                 | exact grows_value _ _
                                 | (apply grows_call; go_at_call 73; exact HCH.out _)
                             intro K hK
                             go_simp
                             refine hK _ ?_
                             clear hK K))
                        refine wpGrow_end (fun wg hwg _ => ?_)
                        go_wp2_with fail
                        go_ret
                        exact ⟨by rw [HNO.out]; rfl, HQ2.out.trans ((HQ3.out.trans (hwg.mono HQ3.out.size)).mono HQ2.out.size)⟩
                      · apply And.intro
                        · repeat (first | exact trivial | (refine ⟨Stays.is _, ?_⟩) | (refine ⟨Stays.bs _, ?_⟩) | (refine ⟨Stays.pg _ _ _, ?_⟩))
                        · rfl
                | false =>
                  have HNO := Lib.hid (HN1h.out (by rw [hl1, hl2]; rfl))
                  refine wp_region_grow_lit (by kernel_rfl) (by kernel_rfl) ?_
                  apply Exists.intro
                  apply And.intro
                  · repeat (first
                      | (apply wpGrow_skip rfl
                         intro K hK
                         go_simp
                         refine hK _ ?_
                         clear hK K)
                      | (apply wpGrow_is rfl
                         · intro wg hwg _
                           have q0 := cell_later hwg pc0
                           have q1 := cell_later hwg pc1
                           have q2 := cell_later hwg pu2
                           have q3 := cell_later hwg pu3
                           have q4 := cell_later hwg pu4
                           have q5 := cell_later hwg px0
                           unfold grows
                           go_simp
                           first
                             | exact grows_value _ _
                             | (apply grows_call; go_at_call 73; exact HCH.out _)
                         intro K hK
                         go_simp
                         refine hK _ ?_
                         clear hK K))
                    refine wpGrow_end (fun wg hwg _ => ?_)
                    go_wp2_with fail
                    go_ret
                    exact ⟨by rw [HNO.out]; rfl, HQ2.out.trans ((HQ3.out.trans (hwg.mono HQ3.out.size)).mono HQ2.out.size)⟩
                  · apply And.intro
                    · repeat (first | exact trivial | (refine ⟨Stays.is _, ?_⟩) | (refine ⟨Stays.bs _, ?_⟩) | (refine ⟨Stays.pg _ _ _, ?_⟩))
                    · rfl
          · obtain rfl : i = cs.length := by omega
            have hfin : fitsT ⟨uid, ud, uf, ut, uo⟩ (leaf, n, cs) = true := by
              rw [HFA.out]
              have := R.out.all
              rwa [List.take_length] at this
            have HFIN := Lib.hid hfin
            have HB := Lib.hid R.out.below
            clear hfin R HFA
            go_wp2_with fail
            go_ret
            exact ⟨by rw [HFIN.out]; rfl, HQ2.out.trans (HB.out.mono HQ2.out.size)⟩
end Go.Proofs.YthbhkdhljlganaaGreatDoor

namespace Go.Proofs.YthbhkdhljlganaaGreatDoor
open Go Go.RowKit
set_option linter.unusedVariables false

/-! ### Cells -/
def unC (u : Und) : List Value := [.int .i64 u.id, .int .i64 (u.depth : Int), .string (st u.from_), .string (st u.to_), .bool u.open_]
def unsC (l : List Und) : List Value := l.flatMap unC
theorem unsC_app (a b : List Und) : unsC (a ++ b) = unsC a ++ unsC b := by simp [unsC]
theorem unsC_one (u : Und) : unsC [u] = unC u := by simp [unsC]
theorem unsC_len (l : List Und) : (unsC l).length = l.length * 5 := by
  induction l with
  | nil => rfl
  | cons x l ih =>
    have e : unsC (x :: l) = unC x ++ unsC l := by simp [unsC]
    rw [e, List.length_append, ih, List.length_cons]
    simp [unC]
    omega
theorem unC_one (u : Und) : ∀ y ∈ unC u, y.oneCell' = true := by
  intro y hy
  simp [unC] at hy
  rcases hy with rfl | rfl | rfl | rfl | rfl <;> rfl
def lfC (l : List ((Int × Pag) × Value)) : List Value := l.flatMap fun x => [.bool x.1.2.1, .int .i64 (x.1.2.2.1 : Int), x.2]
theorem lfC_app (a b : List ((Int × Pag) × Value)) : lfC (a ++ b) = lfC a ++ lfC b := by simp [lfC]
theorem lfC_len (l : List ((Int × Pag) × Value)) : (lfC l).length = l.length * 3 := by
  induction l with
  | nil => rfl
  | cons x l ih =>
    have e : lfC (x :: l) = [.bool x.1.2.1, .int .i64 (x.1.2.2.1 : Int), x.2] ++ lfC l := by simp [lfC]
    rw [e, List.length_append, ih, List.length_cons]
    simp
    omega
def idC (l : List (Int × Pag)) : List Value := l.map fun x => .int .i64 x.1
theorem elemUnd : Elem Tryz.prog 148 147 (.agg #[.int .i64 0, .int .i64 0, .string ⟨#[]⟩, .string ⟨#[]⟩, .bool false]) 5 56 := Elem.mk' Tryz.underlying148 (by kernel_rfl) rfl (by omega)
theorem elemIntT : Elem Tryz.prog 42 3 (.int .i64 0) 1 8 := Elem.mk' Tryz.underlying42 (by kernel_rfl) rfl (by omega)
theorem elemPg : Elem Tryz.prog 22 36 (.agg #[.bool false, .int .i64 0, .slice none 0 0]) 3 40 := Elem.mk' Tryz.underlying22 (by kernel_rfl) rfl (by omega)

/-! ### Rows -/
theorem rows_ne2 {w : World} {B B' : Nat} {e e' : TypeId} {size size' n n' : Nat} {v v' : Value} {xs xs' : List Value} (h : w.ownsRow B e size v n xs) (h' : w.ownsRow B' e' size' v' n' xs') (hne : e ≠ e') : ∀ g, v.ownBlock = some g → v'.ownBlock ≠ some g := by
  intro g hg hg'
  rcases h.2 with ⟨rfl, _⟩ | ⟨g1, cap, cur, rfl, _, hh, _⟩
  · simp [Value.ownBlock] at hg
  · rcases h'.2 with ⟨rfl, _⟩ | ⟨g2, cap', cur', rfl, _, hh', _⟩
    · simp [Value.ownBlock] at hg'
    · simp [Value.ownBlock] at hg hg'
      subst hg
      subst hg'
      rw [hh] at hh'
      simp at hh'
      exact hne hh'.2
theorem own_by {w w' : World} {B B' : Nat} {e e' : TypeId} {size size' n n' : Nat} {v v' : Value} {xs xs' : List Value} (h : w.ownsRow B e size v n xs) (h' : w.ownsRow B' e' size' v' n' xs') (hne : e ≠ e') (hg : w.grownBy w' v'.ownBlock) : w'.ownsRow B e size v n xs := by
  have hn := rows_ne2 h h' hne
  refine h.kept hg ?_
  cases hv : v.ownBlock with
  | none => exact .inl rfl
  | some g => exact .inr fun e => hn g hv e.symm
theorem own_map {w w' : World} {B b : Nat} {e : TypeId} {size n : Nat} {v : Value} {xs : List Value} (h : w.ownsRow B e size v n xs) (hk : kindAt w b = some none) (hg : w.mapTurned w' b) : w'.ownsRow B e size v n xs := by
  refine h.kept hg.grown ?_
  rcases h.2 with ⟨rfl, _⟩ | ⟨g, cap, cur, rfl, _, hh, _⟩
  · exact .inl rfl
  · refine .inr fun e => ?_
    simp [Value.ownBlock] at e
    subst e
    unfold kindAt at hk
    rw [hh] at hk
    simp at hk
theorem mp_by {w w' : World} {b n : Nat} {f : Int → Option Value} {P : Program} {k : TypeId} (h : MpV P k w b f n) {B : Nat} {e : TypeId} {size m : Nat} {v : Value} {xs : List Value} (ho : w.ownsRow B e size v m xs) (hg : w.grownBy w' v.ownBlock) : MpV P k w' b f n := by
  refine h.at (hg.block b h.lt fun e => ?_)
  rcases ho.2 with ⟨rfl, _⟩ | ⟨g, cap, cur, rfl, _, hh, _⟩
  · simp [Value.ownBlock] at e
  · simp [Value.ownBlock] at e
    subst e
    obtain ⟨es, cl, h2⟩ := h.isMap
    rw [hh] at h2
    cases h2
/-- The last element of a row, given up. -/
theorem own_pop {w : World} {B : Nat} {e : TypeId} {size n c : Nat} {A : Option Addr} {xs ys : List Value} (h : w.ownsRow B e size (.slice A (n + 1) c) (n + 1) (xs ++ ys)) (hx : xs.length = n * size) (hy : ys.length = size) :
    w.ownsRow B e size (.slice A n c) n xs ∧ ∃ g, A = some ⟨g, 0, none⟩ ∧ B ≤ g ∧ g < w.heap.size ∧ n + 1 ≤ c ∧ c ≤ maxLen ∧ ∀ j u, ys[j]? = some u → w.cell? ⟨g, n * size + j, none⟩ = some u := by
  have h0 := h
  rcases h.2 with ⟨_, h0⟩ | ⟨g, cap, cur, hv, hB, hh, hcap, hm, hsz, ht⟩
  · omega
  · injection hv with e1 _ e3
    subst e1 e3
    refine ⟨⟨hx, .inr ⟨g, c, cur, rfl, hB, hh, by omega, hm, hsz, ?_⟩⟩, g, rfl, hB, (Array.getElem?_eq_some_iff.1 hh).1, hcap, hm, fun j u hu => ?_⟩
    · have h1 : (cur.toList.take ((n + 1) * size)).take (n * size) = (xs ++ ys).take (n * size) := by rw [ht]
      rw [List.take_take, Nat.min_eq_left (Nat.mul_le_mul_right _ (by omega)), ← hx, List.take_left'  rfl] at h1
      rw [← hx]
      exact h1
    · have := h0.cells (g := g) rfl (n * size + j) u (by rw [List.getElem?_append_right (by omega), hx, Nat.add_sub_cancel_left]; exact hu)
      have e : ((⟨g, 0, none⟩ : Addr).add (n * size + j)) = ⟨g, n * size + j, none⟩ := by rw [addr_add_none]; simp
      rw [e] at this
      exact this
theorem own_cell {w : World} {B n c g j : Nat} {e : TypeId} {size : Nat} {xs : List Value} {u : Value} (h : w.ownsRow B e size (.slice (some ⟨g, 0, none⟩) n c) n xs) (hj : xs[j]? = some u) : w.cell? ⟨g, j, none⟩ = some u := by
  have := h.cells (g := g) rfl j u hj
  have e : ((⟨g, 0, none⟩ : Addr).add j) = ⟨g, j, none⟩ := by rw [addr_add_none]; simp
  rw [e] at this
  exact this
theorem own_at {w : World} {B n : Nat} {e : TypeId} {size : Nat} {v : Value} {xs : List Value} (h : w.ownsRow B e size v n xs) (h0 : 0 < n) : ∃ g c, v = .slice (some ⟨g, 0, none⟩) n c ∧ ∀ j u, xs[j]? = some u → w.cell? ⟨g, j, none⟩ = some u := by
  have h1 := h
  rcases h.2 with ⟨_, hn⟩ | ⟨g, cap, cur, rfl, _⟩
  · omega
  · exact ⟨g, cap, rfl, fun j u hj => own_cell h1 hj⟩
/-- A row of one element, newly made. -/
theorem own_one (w : World) (B : Nat) (e : TypeId) (cs : List Value) {g : Nat} (hg : g = w.heap.size) (hB : B ≤ w.heap.size) : (w.alloc (.cells cs.toArray e)).ownsRow B e cs.length (.slice (some ⟨g, 0, none⟩) 1 1) 1 cs := by
  subst hg
  exact ⟨by simp, .inr ⟨w.heap.size, 1, cs.toArray, rfl, hB, heap_alloc_new w _, Nat.le_refl _, by simp [maxLen], by simp, by simp⟩⟩

theorem new1_cell (w : World) (u0 : Value) (t : TypeId) : ∀ j u, ([u0] : List Value)[j]? = some u → (w.alloc (.cells #[u0] t)).cell? ((⟨w.heap.size, 0, none⟩ : Addr).add j) = some u := by
  intro j u hj
  have e : ((⟨w.heap.size, 0, none⟩ : Addr).add j) = ⟨w.heap.size, j, none⟩ := by rw [addr_add_none]; simp
  rw [e, (Blk.new w t #[u0]).cell j, ← hj]
  simp
theorem old_cells {w : World} {o : Obj} {b : Addr} {xs : List Value} (h : ∀ j u, xs[j]? = some u → w.cell? (b.add j) = some u) : ∀ b', some b = some b' → ∀ j u, xs[j]? = some u → (w.alloc o).cell? (b'.add j) = some u := by
  intro b' hb j u hj
  obtain rfl := Option.some.inj hb
  have h1 := h j u hj
  have hl := World.block_lt_of_cell? w _ h1
  exact (World.cell?_of_block (Below.heap_alloc w o _ hl)).trans h1
/-- 's[1:n:n]' of a slice of one-cell elements. -/
theorem wpList_slice_tail {P : Program} (w : World) {ops : Array Oper} {rest : List Oper} {o : Oper} {a : Act} {Q : Exit → Act → World → Prop} (hgd : o.guard = none) (x lo hi mx : Operand) {t e : TypeId} {z : Value} {bytes : Nat} (E : Elem P t e z 1 bytes)
    (ho : o.op = .slice t x (some lo) (some hi) (some mx)) {g N c : Nat} {xs : List Value} (hx : a.eval x = .slice (some ⟨g, 0, none⟩) N c) (hlo : a.eval lo = .int .i64 1) (hhi : a.eval hi = .int .i64 (N : Int)) (hmx : a.eval mx = .int .i64 (N : Int)) (h1 : 1 ≤ N) (hc : N ≤ c)
    (hl : xs.length = N) (hr : ∀ j u, xs[j]? = some u → w.cell? ⟨g, j, none⟩ = some u)
    (h : ∀ b : Addr, (∀ j u, (xs.drop 1)[j]? = some u → w.cell? (b.add j) = some u) → wpList P ops Q rest (a.put o.dst (.slice (some b) (N - 1) (N - 1))) w) : wpList P ops Q (o :: rest) a w := by
  refine wpList_plain hgd fun K hK => ?_
  obtain ⟨i, hi0, hz, hs, hby⟩ := E.info
  have key : ∀ b : Addr, (b = if N = 1 then ⟨g, 0, none⟩ else ⟨g, 1, none⟩) → ∀ j u, (xs.drop 1)[j]? = some u → w.cell? (b.add j) = some u := by
    intro b hb j u hj
    rw [List.getElem?_drop] at hj
    by_cases hN : N = 1
    · obtain ⟨h2, _⟩ := List.getElem?_eq_some_iff.1 hj
      omega
    · rw [if_neg hN] at hb
      subst hb
      have e : ((⟨g, 1, none⟩ : Addr).add j) = ⟨g, 1 + j, none⟩ := by rw [addr_add_none]
      rw [e]
      exact hr _ _ hj
  unfold Oper.wp
  have hrun : (Instr.sliceAt t (.slice (some ⟨g, 0, none⟩) N c) (some (.int .i64 1)) (some (.int .i64 (N : Int))) (some (.int .i64 (N : Int)))).run P w = .ok (.slice (some (if N = 1 then ⟨g, 0, none⟩ else ⟨g, 1, none⟩)) (N - 1) (N - 1)) w := by
    by_cases hN : N = 1
    · subst hN
      simp [Instr.sliceAt, Instr.slice, Instr.sliceBounds, Instr.sliceBound, run_underlying E.under, sizeOf, typeInfo, hi0, asIntOf, hs]
      intro h
      omega
    · simp [Instr.sliceAt, Instr.slice, Instr.sliceBounds, Instr.sliceBound, run_underlying E.under, sizeOf, typeInfo, hi0, asIntOf, hs, hN, hc, addr_add_none]
      intro h
      omega
  simp [execOp, ho, hx, hlo, hhi, hmx, hrun, Result.andThen]
  exact hK _ _ (h _ (key _ rfl))

/-! ### What Check knows -/
structure CkSt (w wr : World) (bm : Nat) (tv lv iv : Value) (td : List Und) (s : ChT) : Prop where
  todo : wr.ownsRow w.heap.size 147 5 tv td.length (unsC td.reverse)
  lv : ∃ us : List Value, us.length = s.leaves.length ∧ wr.ownsRow w.heap.size 36 3 lv s.leaves.length (lfC (s.leaves.zip us)) ∧ ∀ u ∈ us, ∃ A k c, u = .slice A k c
  ids : wr.ownsRow w.heap.size 3 1 iv s.leaves.length (idC s.leaves)
  seen : ∃ f, MpV Tryz.prog 3 wr bm f s.seen.length ∧ ∀ a, InI a → (f a).isSome = s.seen.contains a
  below : Below w.heap.size w wr
section
variable {w wr w' : World} {bm : Nat} {tv lv iv : Value} {td : List Und} {s : ChT}
theorem CkSt.later (h : CkSt w wr bm tv lv iv td s) (hb : Below wr.heap.size wr w') : CkSt w w' bm tv lv iv td s := by
  obtain ⟨us, h1, h2, h3⟩ := h.lv
  obtain ⟨f, h4, h5⟩ := h.seen
  exact ⟨own_hold h.todo hb, ⟨us, h1, own_hold h2 hb, h3⟩, own_hold h.ids hb, ⟨f, h4.later hb, h5⟩, h.below.trans (hb.mono h.below.size)⟩
/-- todo is another one. -/
theorem CkSt.putT (h : CkSt w wr bm tv lv iv td s) {tv' : Value} {td' : List Und} (ho : w'.ownsRow w.heap.size 147 5 tv' td'.length (unsC td'.reverse)) (hg : wr.grownBy w' tv.ownBlock) : CkSt w w' bm tv' lv iv td' s := by
  obtain ⟨us, h1, h2, h3⟩ := h.lv
  obtain ⟨f, h4, h5⟩ := h.seen
  exact ⟨ho, ⟨us, h1, own_by h2 h.todo (by decide) hg, h3⟩, own_by h.ids h.todo (by decide) hg, ⟨f, mp_by h4 h.todo hg, h5⟩, below_grown_own h.below h.todo hg h.below.size⟩
theorem CkSt.cut (h : CkSt w wr bm tv lv iv td s) {tv' : Value} {td' : List Und} (ho : wr.ownsRow w.heap.size 147 5 tv' td'.length (unsC td'.reverse)) : CkSt w wr bm tv' lv iv td' s := ⟨ho, h.lv, h.ids, h.seen, h.below⟩
theorem CkSt.mark (h : CkSt w wr bm tv lv iv td s) {f : Int → Option Value} {n : Nat} {a : Int} (hm : MpV Tryz.prog 3 w' bm f n) (hg : wr.mapTurned w' bm) (hk : kindAt wr bm = some none) (hbm : w.heap.size ≤ bm) (hn : n = s.seen.length + 1) (hf : ∀ x, InI x → (f x).isSome = (a :: s.seen).contains x) :
    CkSt w w' bm tv lv iv td ⟨s.leaves, a :: s.seen, s.depth⟩ := by
  obtain ⟨us, h1, h2, h3⟩ := h.lv
  refine ⟨own_map h.todo hk hg, ⟨us, h1, own_map h2 hk hg, h3⟩, own_map h.ids hk hg, ⟨f, by subst hn; exact hm, hf⟩, ?_⟩
  exact h.below.grown hg.grown h.below.size (fun k hk => by injection hk with hk; omega)
end

/-! ### Plain -/
/-- What Check's first loop has done; F: what it will have found. -/
structure CkOk (pf : PF) (td : List Und) (s : ChT) (k : Nat) (F : Option ChT) : Prop where
  run : chkLoop pf k td s = F
  fuel : s.seen.length + k = 91
  nod : s.seen.Nodup
  pgs : ∀ a ∈ s.seen, 0 ≤ a ∧ a < 90
  und : ∀ u ∈ td, InI u.id ∧ u.depth ≤ s.seen.length
  len : td.length ≤ 1 + 1100 * s.seen.length
  dep : s.depth ≤ 91
  lvs : ∀ x ∈ s.leaves, InI x.1 ∧ POk x.2
  lvn : s.leaves.length ≤ s.seen.length
theorem seen_le {l : List Int} (hn : l.Nodup) (h : ∀ a ∈ l, 0 ≤ a ∧ a < 90) : l.length ≤ 90 := by
  have := nodup_sub (l := l) (l' := (List.range 90).map fun i : Nat => (i : Int)) hn fun a ha => by
    obtain ⟨h0, h1⟩ := h a ha
    rw [List.mem_map]
    exact ⟨a.toNat, by rw [List.mem_range]; omega, by omega⟩
  simpa using this
theorem CkOk.start (pf : PF) : CkOk pf [und0] ⟨[], [], 0⟩ 91 (chkLoop pf 91 [und0] ⟨[], [], 0⟩) :=
  ⟨rfl, rfl, List.nodup_nil, fun _ h => (by cases h), fun u hu => (by obtain rfl := List.mem_singleton.1 hu; exact ⟨by unfold InI und0; simp, by unfold und0; simp⟩), by simp, by simp, fun _ h => (by cases h), by simp⟩
theorem CkOk.done {pf : PF} {s : ChT} {k : Nat} {F : Option ChT} (h : CkOk pf [] s k F) : F = some s := by
  rw [← h.run]
  cases k <;> rfl
/-- One more page; what comes of it. -/
theorem CkOk.step {pf : PF} {u : Und} {td : List Und} {s : ChT} {k : Nat} {F : Option ChT} (h : CkOk pf (u :: td) s k F) :
    ∃ k', k = k' + 1 ∧ F = match pf u.id with
    | none => none
    | some x =>
      if s.seen.contains u.id || !fitsT u x then none
      else if x.1 then
        if s.leaves ≠ [] ∧ s.depth ≠ u.depth then none
        else chkLoop pf k' td ⟨s.leaves ++ [(u.id, x)], u.id :: s.seen, u.depth⟩
      else chkLoop pf k' (kidsT u x.2.2 ++ td) ⟨s.leaves, u.id :: s.seen, s.depth⟩ := by
  have h9 := seen_le h.nod h.pgs
  have hf := h.fuel
  obtain ⟨k', rfl⟩ : ∃ k', k = k' + 1 := ⟨k - 1, by omega⟩
  refine ⟨k', rfl, ?_⟩
  rw [← h.run]
  conv => lhs; rw [chkLoop]
  rfl
theorem kidsT_len (u : Und) : ∀ cs : List Cel, (kidsT u cs).length = cs.length
  | [] => rfl
  | [c] => rfl
  | c :: d :: r => by rw [kidsT, List.length_cons, kidsT_len u (d :: r)]; rfl
theorem CkOk.leaf {pf : PF} {u : Und} {td : List Und} {s : ChT} {k : Nat} {F : Option ChT} (h : CkOk pf (u :: td) s (k + 1) F) {x : Pag} (hx : 0 ≤ u.id ∧ u.id < 90 ∧ POk x) (hs : s.seen.contains u.id = false)
    (hF : F = chkLoop pf k td ⟨s.leaves ++ [(u.id, x)], u.id :: s.seen, u.depth⟩) : CkOk pf td ⟨s.leaves ++ [(u.id, x)], u.id :: s.seen, u.depth⟩ k F := by
  have hu := h.und u (List.mem_cons_self ..)
  have hns : u.id ∉ s.seen := fun e => by rw [List.contains_iff_mem.2 e] at hs; cases hs
  have h9 := seen_le h.nod h.pgs
  have hf := h.fuel
  refine ⟨hF.symm, by simp only [List.length_cons]; omega, List.nodup_cons.2 ⟨hns, h.nod⟩, fun a ha => ?_, fun v hv => ?_, ?_, by simp only; omega, fun y hy => ?_, ?_⟩
  · rcases List.mem_cons.1 ha with rfl | ha
    · exact ⟨hx.1, hx.2.1⟩
    · exact h.pgs a ha
  · have := h.und v (List.mem_cons_of_mem _ hv)
    exact ⟨this.1, by simp only [List.length_cons]; omega⟩
  · have := h.len
    simp only [List.length_cons] at this ⊢
    omega
  · rcases List.mem_append.1 hy with hy | hy
    · exact h.lvs y hy
    · obtain rfl := List.mem_singleton.1 hy
      exact ⟨hu.1, hx.2.2⟩
  · have := h.lvn
    simp only [List.length_append, List.length_cons, List.length_nil]
    omega
theorem CkOk.inner {pf : PF} {u : Und} {td : List Und} {s : ChT} {k : Nat} {F : Option ChT} (h : CkOk pf (u :: td) s (k + 1) F) {x : Pag} (hx : 0 ≤ u.id ∧ u.id < 90 ∧ POk x) (hs : s.seen.contains u.id = false)
    (hF : F = chkLoop pf k (kidsT u x.2.2 ++ td) ⟨s.leaves, u.id :: s.seen, s.depth⟩) : CkOk pf (kidsT u x.2.2 ++ td) ⟨s.leaves, u.id :: s.seen, s.depth⟩ k F := by
  have hu := h.und u (List.mem_cons_self ..)
  have hns : u.id ∉ s.seen := fun e => by rw [List.contains_iff_mem.2 e] at hs; cases hs
  have h9 := seen_le h.nod h.pgs
  have hf := h.fuel
  refine ⟨hF.symm, by simp only [List.length_cons]; omega, List.nodup_cons.2 ⟨hns, h.nod⟩, fun a ha => ?_, fun v hv => ?_, ?_, h.dep, h.lvs, ?_⟩
  · rcases List.mem_cons.1 ha with rfl | ha
    · exact ⟨hx.1, hx.2.1⟩
    · exact h.pgs a ha
  · rcases List.mem_append.1 hv with hv | hv
    · obtain ⟨h1, c, _, h2⟩ := kidsT_mem hv
      rw [h1, h2]
      exact ⟨childT_i _, by simp only [List.length_cons]; omega⟩
    · have := h.und v (List.mem_cons_of_mem _ hv)
      exact ⟨this.1, by simp only [List.length_cons]; omega⟩
  · have h1 := h.len
    have h2 := (cells_len hx.2.2).1
    simp only [List.length_append, List.length_cons, kidsT_len] at h1 ⊢
    omega
  · have := h.lvn
    simp only [List.length_cons]
    omega
/-- The pages below an inner page, one by one from the last. -/
def kidAt (u : Und) (cs : List Cel) (i : Nat) : Und := ⟨childT (cellAt cs i).2, u.depth + 1, (cellAt cs i).1, if i + 1 < cs.length then (cellAt cs (i + 1)).1 else u.to_, if i + 1 < cs.length then false else u.open_⟩
theorem kidsT_get (u : Und) : ∀ (cs : List Cel) (i : Nat), i < cs.length → (kidsT u cs)[i]? = some (kidAt u cs i)
  | [], i, h => by simp at h
  | [c], i, h => by
    obtain rfl : i = 0 := by simp at h; omega
    simp [kidsT, kidAt, cellAt]
  | c :: d :: r, 0, h => by simp [kidsT, kidAt, cellAt]
  | c :: d :: r, i + 1, h => by
    rw [kidsT, List.getElem?_cons_succ, kidsT_get u (d :: r) i (by simpa using h)]
    simp [kidAt, cellAt]
theorem kids_drop (u : Und) (cs : List Cel) {i : Nat} (h : i < cs.length) : (kidsT u cs).drop i = kidAt u cs i :: (kidsT u cs).drop (i + 1) := by
  have hl : i < (kidsT u cs).length := by rw [kidsT_len]; exact h
  rw [List.drop_eq_getElem_cons hl]
  have := kidsT_get u cs i h
  rw [List.getElem?_eq_getElem hl] at this
  injection this with this
  rw [this]
/-- What is to be looked at while the pages below one are being put there: the last n are. -/
def kdL (u : Und) (cs : List Cel) (td : List Und) (n : Nat) : List Und := (kidsT u cs).drop n ++ td
theorem kdL_all (u : Und) (cs : List Cel) (td : List Und) : kdL u cs td cs.length = td := by unfold kdL; rw [List.drop_of_length_le (by rw [kidsT_len]; exact Nat.le_refl _)]; rfl
theorem kdL_at (u : Und) (cs : List Cel) (td : List Und) {i : Nat} (h : i < cs.length) : kdL u cs td i = kidAt u cs i :: kdL u cs td (i + 1) := by unfold kdL; rw [kids_drop u cs h]; rfl
theorem kdL_len (u : Und) (cs : List Cel) (td : List Und) (n : Nat) : (kdL u cs td n).length ≤ cs.length + td.length := by
  unfold kdL
  rw [List.length_append, List.length_drop, kidsT_len]
  omega
theorem idn_get {l : List (Int × Pag)} {i : Nat} (h : i < l.length) : ((idC l).drop 1 ++ ([.int .i64 0] : List Value))[i]? = some (.int .i64 ((((l.map (·.1)).drop 1 ++ [0])[i]?).getD 0)) := by
  have e : ((idC l).drop 1 ++ ([.int .i64 0] : List Value)) = (((l.map fun x : Int × Pag => x.1).drop 1 ++ [0] : List Int)).map (fun z : Int => Value.int .i64 z) := by
    unfold idC
    rw [List.map_append, List.map_drop, List.map_map]
    rfl
  rw [e, List.getElem?_map]
  have hl : i < (((l.map fun x : Int × Pag => x.1).drop 1 ++ [0] : List Int)).length := by simp; omega
  rw [List.getElem?_eq_getElem hl]
  rfl
/-- A leaf's next as Check asks for it. -/
def nextOk (l : List (Int × Pag)) (i : Nat) : Prop := ∀ x, l[i]? = some x → (x.2.2.1 : Int) = (((l.map (·.1)).drop 1 ++ [0])[i]?).getD 0
theorem chained_iff : ∀ l : List (Int × Pag), chained l = true ↔ ∀ i, i < l.length → nextOk l i
  | [] => by simp [chained]
  | [(j, x)] => by
    simp only [chained, decide_eq_true_eq]
    constructor
    · intro h i hi y hy
      obtain rfl : i = 0 := by simp at hi; omega
      simp at hy
      subst hy
      simp [h]
    · intro h
      have := h 0 (by simp) (j, x) (by simp)
      simp at this
      omega
  | (j, x) :: (k, y) :: r => by
    rw [chained, Bool.and_eq_true, chained_iff ((k, y) :: r), decide_eq_true_eq]
    constructor
    · rintro ⟨h1, h2⟩ i hi z hz
      cases i with
      | zero =>
        simp at hz
        subst hz
        simpa using h1
      | succ i =>
        have := h2 i (by simpa using hi) z (by simpa using hz)
        simpa using this
    · intro h
      refine ⟨?_, fun i hi z hz => ?_⟩
      · have := h 0 (by simp) (j, x) (by simp)
        simpa using this
      · have := h (i + 1) (by simpa using hi) z (by simpa using hz)
        simpa using this
end Go.Proofs.YthbhkdhljlganaaGreatDoor
