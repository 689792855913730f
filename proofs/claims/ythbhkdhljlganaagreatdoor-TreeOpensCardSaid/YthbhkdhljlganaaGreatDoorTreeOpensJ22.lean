/- What the proof of TreeOpens needs, part 22. -/
import Derived.Test.YthbhkdhljlganaaGreatDoorTreeOpensJ2
import Derived.Test.YthbhkdhljlganaaGreatDoorTreeOpensJ3
import Derived.Test.YthbhkdhljlganaaGreatDoorTreeOpensJ4
import Derived.Test.YthbhkdhljlganaaGreatDoorTreeOpensJ13
import Derived.Test.YthbhkdhljlganaaGreatDoorTreeOpensJ21
import Derived.BigQuiet

namespace Go.Proofs.YthbhkdhljlganaaGreatDoor
open Go Go.RowKit
set_option linter.unusedVariables false

end Go.Proofs.YthbhkdhljlganaaGreatDoor

namespace Go.Proofs.YthbhkdhljlganaaGreatDoor
open Go Go.RowKit
set_option linter.unusedVariables false

/-- A disk that the call has made, since w. -/
structure Dp (w W : World) (h : Zn) (D : Dsk) : Prop where
  dk : Dk W h D
  new : ∀ b, h.has b → w.heap.size ≤ b
  below : Below w.heap.size w W
section
variable {w W W' : World} {h h' : Zn} {D D' : Dsk}
theorem Dp.later (d : Dp w W h D) (hb : Below W.heap.size W W') : Dp w W' h D := ⟨d.dk.later hb, d.new, d.below.trans (hb.mono d.below.size)⟩
end

section
variable {w W W' : World} {h h' : Zn} {D D' : Dsk} {g : Nat} {a : Int} {num : Nat} {last : Int} {body t : List UInt8}
end
end Go.Proofs.YthbhkdhljlganaaGreatDoor

namespace Go.Proofs.YthbhkdhljlganaaGreatDoor
open Go Go.RowKit
set_option linter.unusedVariables false

section
variable {P : Pgr} {c : Int → List UInt8}
theorem Pk.put (h : Pk P c) {x : Int} {b : List UInt8} (h0 : 0 ≤ x) (h1 : x < 90) (hb : b.length ≤ 2048) : Pk (P.put x b) c := by
  refine ⟨h.kp, fun y hy => ?_, fun y b' hy => ?_, fun y hy => ?_⟩
  · have hy : ((P.wr.put x b) y).isSome = true := hy
    unfold SF.put at hy
    split at hy
    · omega
    · exact h.w90 y hy
  · have hy : (P.wr.put x b) y = some b' := hy
    unfold SF.put at hy
    split at hy
    · simp only [Option.some.injEq] at hy
      rw [← hy]; exact hb
    · exact h.wlen y b' hy
  · have hy : gnPut P.gn x false y = true := hy
    unfold gnPut at hy
    split at hy
    · cases hy
    · exact h.g90 y hy
theorem pgWhy_zero {x : Int} {b : List UInt8} (h : pgWhy x b = 0) : 0 ≤ x ∧ x < 90 ∧ b.length ≤ 2048 := by
  unfold pgWhy at h
  split at h
  · cases h
  · split at h
    · cases h
    · omega
theorem Pk.write (h : Pk P c) (x : Int) (b : List UInt8) : Pk (P.write x b) c := by
  unfold Pgr.write
  split
  · rename_i hw
    have := pgWhy_zero hw
    exact h.put this.1 this.2.1 this.2.2
  · exact h
theorem Kp.toPk {D : Dsk} {a : Int} {n num : Nat} {last : Int} {tag : Nat} {tb : TF} (h : Kp D a n num last tag tb c) : Pk (pgNew D a n num last (tag, tb)) c :=
  ⟨h, fun x hx => (by cases hx), fun x b hx => (by cases hx), fun x hx => (by cases hx)⟩
end

/-- A pager of the law's own. -/
structure Px (w W : World) (Z : Pz) (P : Pgr) (c : Int → List UInt8) : Prop where
  pg : Pg W Z P
  pk : Pk P c
  new : ∀ b, Z.has b → w.heap.size ≤ b
  below : Below w.heap.size w W
  num : P.num ≤ 100000
section
variable {w W W' : World} {Z Z' : Pz} {P P' : Pgr} {c c' : Int → List UInt8}
theorem Px.later (p : Px w W Z P c) (hb : Below W.heap.size W W') : Px w W' Z P c := ⟨p.pg.later hb, p.pk, p.new, p.below.trans (hb.mono p.below.size), p.num⟩
theorem Px.ptp (p : Px w W Z P c) (s : Ptp Z W Z' W') (k : Pg W' Z' P') (pk : Pk P' c') (hn : P'.num ≤ 100000) : Px w W' Z' P' c' :=
  ⟨k, pk, fun b hb => (s.has b hb).elim (p.new b) (fun h => Nat.le_trans p.below.size h), Turn.below p.below s.turn p.below.size p.new, hn⟩
theorem Px.z0 (p : Px w W Z P c) (h : 0 < w.heap.size) : ¬ Z.has 0 := fun e => by have := p.new 0 e; omega
theorem write_num (P : Pgr) (x : Int) (b : List UInt8) : (P.write x b).num = P.num := by unfold Pgr.write; split <;> rfl
theorem px_write (p : Px w W Z P c) (x : Int) (S : Nat → Prop) (v0 : Value) (b : List UInt8) (hx : InI x) (hb : Bs S W v0 b) (hbl : b.length ≤ 1099511627776) {g : Nat} (hg : Z.g = g) :
    Calls Tryz.prog 9 #[.pointer (some ⟨g, 0, none⟩), .int .i64 x, v0] W fun e W' => e = .returned (.int .i64 (pgWhy x b : Int)) ∧ Px w W' Z (P.write x b) c ∧ Ptp Z W Z W' := by
  subst hg
  refine (pwrite_any Z P x S v0 b W p.pg hx hb hbl).mono ?_
  rintro e W' ⟨he, h1, h2⟩
  exact ⟨he, p.ptp h2 h1 (p.pk.write x b) (by rw [write_num]; exact p.num), h2⟩
/-- A pager that is opened on a disk that keeps one. -/
theorem px_open {h : Zn} {D : Dsk} {a : Int} {n num : Nat} {last : Int} {tag : Nat} {tb : TF} (hd : Dp w W h D) (hk : Kp D a n num last tag tb c) (hn : num ≤ 100000) {pg : Nat} (hg : h.g = pg) :
    Calls Tryz.prog 7 #[.pointer (some ⟨pg, 0, none⟩), .int .i64 a, .int .i64 (n : Int)] W fun e W' => ∃ Z, e = .returned (.tuple #[.pointer (some ⟨Z.g, 0, none⟩), .int .i64 0]) ∧ Px w W' Z (pgNew D a n num last (tag, tb)) c ∧ Z.h = h ∧ Below W.heap.size W W' := by
  subst hg
  have hfit := hk.fit
  have hsz := hk.mj.still.ok.size
  have h2 := hk.n2
  have h256 := hk.n256
  refine (popen_any h D a n W hd.dk hk.mj.still.ok ⟨by omega, by omega, hk.mj.a0, by omega⟩).mono ?_
  rintro e W' ⟨hc, hb⟩
  rcases hc with ⟨P, Z, ho, he, hp, hz, _, hnew⟩ | ⟨ho, _⟩
  · rw [hk.open] at ho
    simp only [Option.some.injEq] at ho
    subst ho
    exact ⟨Z, he, ⟨hp, hk.toPk, fun b hb' => (hnew b hb').elim (hd.new b) (fun h => Nat.le_trans hd.below.size h), hd.below.trans (hb.mono hd.below.size), hn⟩, hz, hb⟩
  · rw [hk.open] at ho
    cases ho
end

end Go.Proofs.YthbhkdhljlganaaGreatDoor

namespace Go.Proofs.YthbhkdhljlganaaGreatDoor
open Go Go.RowKit
set_option linter.unusedVariables false
set_option linter.unusedSimpArgs false

section
variable {P : Program} {ops : Array Oper} {F : Nat → Prop} {pt : Pt} {ic : Nat} {w0 : World}
section
variable {Q : Act → World → Prop} {a : Act} {o : Oper} {rest : List Oper} {Vs : List VP} {env : List (Value × VP)}
end
end
end Go.Proofs.YthbhkdhljlganaaGreatDoor

namespace Go.Proofs.YthbhkdhljlganaaGreatDoor
open Go Go.RowKit
set_option linter.unusedVariables false
set_option linter.unusedSimpArgs false

def coS (F : Nat → Prop) (ic i : Nat) : World → World → Prop := if i = ic then Turn F else fun w w' => Below w.heap.size w w'
def coR (F : Nat → Prop) (ic : Nat) (w0 : World) : RegFr := ⟨coS F ic, fun j => if j = ic then Below w0.heap.size w0 else Turn F w0, Turn F w0⟩
def VCo (F : Nat → Prop) (ic j : Nat) (V : VP) : Prop := Stays V ∧ (j ≠ ic → ∀ v w w', Turn F w w' → V v w → V v w')
def CoOk (F : Nat → Prop) (ic : Nat) : Nat → List VP → Prop
  | _, [] => True
  | j, V :: Vs => VCo F ic j V ∧ CoOk F ic (j + 1) Vs
theorem coOk {F : Nat → Prop} {ic : Nat} : ∀ {Vs : List VP} {n : Nat}, CoOk F ic n Vs → ∀ j, j < Vs.length → VCo F ic (n + j) (vAt Vs j)
  | V :: Vs, n, h, 0, _ => h.1
  | V :: Vs, n, h, j + 1, hj => by
    have := coOk h.2 j (by simp only [List.length_cons] at hj; omega)
    rw [show n + 1 + j = n + (j + 1) from by omega] at this
    exact this
theorem VCo.is (F : Nat → Prop) (ic j : Nat) (c : Value) : VCo F ic j (Is c) := ⟨Stays.is c, fun _ _ _ _ _ h => h⟩
section
variable {P : Program} {ops : Array Oper} {F : Nat → Prop} {ic : Nat} {w0 : World}
theorem coS_call : coS F ic ic = Turn F := by unfold coS; rw [if_pos rfl]
theorem coS_else {i : Nat} (h : i ≠ ic) : coS F ic i = fun w w' => Below w.heap.size w w' := by unfold coS; rw [if_neg h]
theorem co_turn {i : Nat} {w w' : World} (hS : coS F ic i w w') (hE : Turn F w0 w) : Turn F w0 w' := by
  unfold coS at hS
  split at hS
  · exact hE.trans hS fun b hb => .inl hb
  · exact hE.trans (Turn.of_below (F := F) hS) fun b hb => .inl hb
theorem coR_ok {Vs : List VP} (hlen : Vs.length = ops.size) (h : CoOk F ic 0 Vs) : (coR F ic w0).Ok ops Vs := by
  refine ⟨fun i j hi hj hne hwt x w w' hS hv => ?_, fun i j hi hj hne hwt w w' hS hC => ?_, fun i hi w w' hS hE => co_turn hS hE⟩
  · have h1 := coOk h j (by omega)
    rw [Nat.zero_add] at h1
    have hS : coS F ic i w w' := hS
    by_cases h2 : i = ic
    · subst h2
      rw [coS_call] at hS
      exact h1.2 (Ne.symm hne) x w w' hS hv
    · rw [coS_else h2] at hS
      exact h1.1 x w w' hS hv
  · have hS : coS F ic i w w' := hS
    simp only [coR] at hC ⊢
    by_cases hj2 : j = ic
    · subst hj2
      rw [if_pos rfl] at hC ⊢
      rw [coS_else hne] at hS
      exact hC.trans (Below.mono hS hC.size)
    · rw [if_neg hj2] at hC ⊢
      exact co_turn hS hC
theorem wp_region_co {id : Nat} {Q' : Exit → Act → World → Prop} {l : List Oper} {a0 : Act} (F : Nat → Prop) (ic : Nat) (hm : P.follows .mixedOrders = true) (hg : growB l.toArray = true)
    (h : ∃ Vs, wpReg P l.toArray (coR F ic w0) (fun a w => Q' .normal a w) l Vs [] a0 ∧ CoOk F ic 0 Vs ∧ Vs.length = l.length) : (Code.region id l.toArray true).wp P Q' a0 w0 := by
  obtain ⟨Vs, h0, hS, hlen⟩ := h
  refine wp_region_reg l hm hg (coR_ok (by simpa using hlen) hS) hlen ((Turn.refl _ _).drew) (fun j _ => ?_) h0
  simp only [coR]
  split
  · exact (Below.refl _ _).drew
  · exact (Turn.refl _ _).drew
section
variable {Q : Act → World → Prop} {a : Act} {o : Oper} {rest : List Oper} {Vs : List VP} {env : List (Value × VP)}
theorem wpO_rel {V : VP} (hw : Region.wanted o (yielded ops a.tmps) = true) (hn : (env.length == ic) = false)
    (h1 : ∀ w, Turn F w0 w → (∀ e ∈ o.after, Region.binds .any e = true → ∀ (x : Value) (W : VP), env[e.on]? = some (x, W) → W x w) → grows P o a w V)
    (h2 : ∀ x, (∃ w, Turn F w0 w ∧ V x w) → ∀ K : Act → Prop, (∀ a', wpReg P ops (coR F ic w0) Q rest Vs (env ++ [(x, V)]) a' → K a') → K (a.put o.dst x)) : wpReg P ops (coR F ic w0) Q (o :: rest) (V :: Vs) env a := by
  have hn' : env.length ≠ ic := by simpa using hn
  refine ⟨?_, fun x hx => h2 x hx _ fun _ h => h⟩
  rw [if_pos hw]
  intro w hC hf
  have hC : Turn F w0 w := by
    simp only [coR] at hC
    rw [if_neg hn'] at hC
    exact hC
  have h3 := h1 w hC hf
  have eS : (coR F ic w0).S env.length = fun w w' => Below w.heap.size w w' := coS_else hn'
  rw [eS]
  unfold grows at h3
  unfold steps
  revert h3
  cases (execOp a.eval o).run P w with
  | ok n w' =>
    cases n <;> simp only [growsUpon, stepsUpon] <;> first | exact fun h => h | exact fun h => h.2.mono fun e w'' ⟨v, he, hb, hv⟩ => ⟨v, he, grow_trans h.1 hb, hv⟩
  | halt x w' => simp only [growsUpon, stepsUpon]; exact fun h => h
theorem wpO_is {c : Value} (hw : Region.wanted o (yielded ops a.tmps) = true) (hn : (env.length == ic) = false)
    (h1 : ∀ w, Turn F w0 w → (∀ e ∈ o.after, Region.binds .any e = true → ∀ (x : Value) (W : VP), env[e.on]? = some (x, W) → W x w) → grows P o a w (Is c))
    (h2 : ∀ K : Act → Prop, (∀ a', wpReg P ops (coR F ic w0) Q rest Vs (env ++ [(c, Is c)]) a' → K a') → K (a.put o.dst c)) : wpReg P ops (coR F ic w0) Q (o :: rest) (Is c :: Vs) env a :=
  wpO_rel hw hn h1 fun x ⟨_, _, hx⟩ => by
    obtain rfl : x = c := hx
    exact h2
theorem wpO_call {V : VP} (hw : Region.wanted o (yielded ops a.tmps) = true) (hic : (env.length == ic) = true)
    (h1 : ∀ w, Below w0.heap.size w0 w → (∀ e ∈ o.after, Region.binds .any e = true → ∀ (x : Value) (W : VP), env[e.on]? = some (x, W) → W x w) → steps P o a w (Turn F) V)
    (h2 : ∀ x, (∃ w, Turn F w0 w ∧ V x w) → ∀ K : Act → Prop, (∀ a', wpReg P ops (coR F ic w0) Q rest Vs (env ++ [(x, V)]) a' → K a') → K (a.put o.dst x)) : wpReg P ops (coR F ic w0) Q (o :: rest) (V :: Vs) env a := by
  obtain rfl : env.length = ic := by simpa using hic
  refine ⟨?_, fun x hx => h2 x hx _ fun _ h => h⟩
  rw [if_pos hw]
  intro w hC hf
  have hC : Below w0.heap.size w0 w := by
    simp only [coR] at hC
    rw [if_pos trivial] at hC
    exact hC
  have eS : (coR F env.length w0).S env.length = Turn F := coS_call
  rw [eS]
  exact h1 w hC hf
theorem wpO_end (h : ∀ w, Turn F w0 w → (∀ (j : Nat) (x : Value) (W : VP), env[j]? = some (x, W) → W x w) → Q a w) : wpReg P ops (coR F ic w0) Q [] [] env a := h
end
end
end Go.Proofs.YthbhkdhljlganaaGreatDoor
