/- What the proof of PagerLeast needs, part 45. -/
import Derived.Test.YtildohndbeagaaaGreatDoorPagerLeastJ3
import Derived.Test.YtildohndbeagaaaGreatDoorPagerLeastJ44

namespace Go.Proofs.YtildohndbeagaaaGreatDoor
open Go Go.RowKit
set_option linter.unusedVariables false
set_option linter.unusedSimpArgs false

theorem turn_puts {p : Pt} {w w' : World} (h : Puts p w w') : Turn (fun b => b = p.g) w w' := by
  obtain ⟨cs, cs', h1, _, _, rfl⟩ := h
  exact ⟨rfl, rfl, rfl, by rw [size_setRow]; exact Nat.le_refl _, fun b hb hn => heap_setRow w p.g cs' b hn⟩
def cfF (F : Nat → Prop) (g : Nat) : Nat → Prop := fun b => F b ∨ b = g
def cfS (F : Nat → Prop) (pt : Pt) (ic i : Nat) : World → World → Prop := if i = ic then Turn F else if i = pt.i then Puts pt else fun w w' => Below w.heap.size w w'
def cfR (F : Nat → Prop) (pt : Pt) (ic : Nat) (w0 : World) : RegFr := ⟨cfS F pt ic, fun j => if j = ic then Below w0.heap.size w0 else if j = pt.i then Turn F w0 else Turn (cfF F pt.g) w0, Turn (cfF F pt.g) w0⟩
def VCf (F : Nat → Prop) (pt : Pt) (ic j : Nat) (V : VP) : Prop := Stays V ∧ (j ≠ ic → ∀ v w w', Turn F w w' → V v w → V v w') ∧ (j ≠ pt.i → PStays pt V)
def CfOk (F : Nat → Prop) (pt : Pt) (ic : Nat) : Nat → List VP → Prop
  | _, [] => True
  | j, V :: Vs => VCf F pt ic j V ∧ CfOk F pt ic (j + 1) Vs
theorem cfOk {F : Nat → Prop} {pt : Pt} {ic : Nat} : ∀ {Vs : List VP} {n : Nat}, CfOk F pt ic n Vs → ∀ j, j < Vs.length → VCf F pt ic (n + j) (vAt Vs j)
  | V :: Vs, n, h, 0, _ => h.1
  | V :: Vs, n, h, j + 1, hj => by
    have := cfOk h.2 j (by simp only [List.length_cons] at hj; omega)
    rw [show n + 1 + j = n + (j + 1) from by omega] at this
    exact this
theorem VCf.is (F : Nat → Prop) (pt : Pt) (ic j : Nat) (c : Value) : VCf F pt ic j (Is c) := ⟨Stays.is c, fun _ _ _ _ _ h => h, fun _ => Is.pstays c pt⟩
section
variable {P : Program} {ops : Array Oper} {F : Nat → Prop} {pt : Pt} {ic : Nat} {w0 : World}
theorem cfS_call : cfS F pt ic ic = Turn F := by unfold cfS; rw [if_pos rfl]
theorem cfS_store (h : pt.i ≠ ic) : cfS F pt ic pt.i = Puts pt := by unfold cfS; rw [if_neg h, if_pos rfl]
theorem cfS_else {i : Nat} (h : i ≠ ic) (h2 : i ≠ pt.i) : cfS F pt ic i = fun w w' => Below w.heap.size w w' := by unfold cfS; rw [if_neg h, if_neg h2]
theorem cf_turn {i : Nat} {w w' : World} (hS : cfS F pt ic i w w') (hE : Turn (cfF F pt.g) w0 w) : Turn (cfF F pt.g) w0 w' := by
  unfold cfS at hS
  split at hS
  · exact hE.trans hS fun b hb => .inl (.inl hb)
  · split at hS
    · exact hE.trans (turn_puts hS) fun b hb => .inl (.inr hb)
    · exact hE.trans (Turn.of_below (F := F) hS) fun b hb => .inl (.inl hb)
theorem cfR_ok {Vs : List VP} (hic : pt.i ≠ ic) (hsi : waits ops pt.i ic = true) (hlen : Vs.length = ops.size) (h : CfOk F pt ic 0 Vs) : (cfR F pt ic w0).Ok ops Vs := by
  refine ⟨fun i j hi hj hne hwt x w w' hS hv => ?_, fun i j hi hj hne hwt w w' hS hC => ?_, fun i hi w w' hS hE => cf_turn hS hE⟩
  · have h1 := cfOk h j (by omega)
    rw [Nat.zero_add] at h1
    have hS : cfS F pt ic i w w' := hS
    by_cases h2 : i = ic
    · subst h2
      rw [cfS_call] at hS
      exact h1.2.1 (Ne.symm hne) x w w' hS hv
    · by_cases h3 : i = pt.i
      · subst h3
        rw [cfS_store h2] at hS
        exact h1.2.2 (Ne.symm hne) x w w' hS hv
      · rw [cfS_else h2 h3] at hS
        exact h1.1 x w w' hS hv
  · have hS : cfS F pt ic i w w' := hS
    simp only [cfR] at hC ⊢
    by_cases hj2 : j = ic
    · subst hj2
      rw [if_pos rfl] at hC ⊢
      by_cases h3 : i = pt.i
      · subst h3
        rw [hsi] at hwt
        cases hwt
      · rw [cfS_else hne h3] at hS
        exact hC.trans (Below.mono hS hC.size)
    · rw [if_neg hj2] at hC ⊢
      by_cases hj3 : j = pt.i
      · rw [if_pos hj3] at hC ⊢
        unfold cfS at hS
        split at hS
        · exact hC.trans hS fun b hb => .inl hb
        · rw [if_neg (by omega)] at hS
          exact hC.trans (Turn.of_below (F := F) hS) fun b hb => .inl hb
      · rw [if_neg hj3] at hC ⊢
        exact cf_turn hS hC
theorem wp_region_cf {id : Nat} {Q' : Exit → Act → World → Prop} {l : List Oper} {a0 : Act} (F : Nat → Prop) (pt : Pt) (ic : Nat) (hic : pt.i ≠ ic) (hm : P.follows .mixedOrders = true) (hg : growB l.toArray = true) (hsi : waits l.toArray pt.i ic = true)
    (h : ∃ Vs, wpReg P l.toArray (cfR F pt ic w0) (fun a w => Q' .normal a w) l Vs [] a0 ∧ CfOk F pt ic 0 Vs ∧ Vs.length = l.length) : (Code.region id l.toArray true).wp P Q' a0 w0 := by
  obtain ⟨Vs, h0, hS, hlen⟩ := h
  refine wp_region_reg l hm hg (cfR_ok hic hsi (by simpa using hlen) hS) hlen ((Turn.refl _ _).drew) (fun j _ => ?_) h0
  simp only [cfR]
  split
  · exact (Below.refl _ _).drew
  · split
    · exact (Turn.refl _ _).drew
    · exact (Turn.refl _ _).drew
section
variable {Q : Act → World → Prop} {a : Act} {o : Oper} {rest : List Oper} {Vs : List VP} {env : List (Value × VP)}
theorem wpC_rel {V : VP} (hw : Region.wanted o (yielded ops a.tmps) = true) (hn : (env.length == ic) = false) (hn2 : (env.length == pt.i) = false)
    (h1 : ∀ w, Turn (cfF F pt.g) w0 w → (∀ e ∈ o.after, Region.binds .any e = true → ∀ (x : Value) (W : VP), env[e.on]? = some (x, W) → W x w) → grows P o a w V)
    (h2 : ∀ x, (∃ w, Turn (cfF F pt.g) w0 w ∧ V x w) → ∀ K : Act → Prop, (∀ a', wpReg P ops (cfR F pt ic w0) Q rest Vs (env ++ [(x, V)]) a' → K a') → K (a.put o.dst x)) : wpReg P ops (cfR F pt ic w0) Q (o :: rest) (V :: Vs) env a := by
  have hn' : env.length ≠ ic := by simpa using hn
  have hn2' : env.length ≠ pt.i := by simpa using hn2
  refine ⟨?_, fun x hx => h2 x hx _ fun _ h => h⟩
  rw [if_pos hw]
  intro w hC hf
  have hC : Turn (cfF F pt.g) w0 w := by
    simp only [cfR] at hC
    rw [if_neg hn', if_neg hn2'] at hC
    exact hC
  have h3 := h1 w hC hf
  have eS : (cfR F pt ic w0).S env.length = fun w w' => Below w.heap.size w w' := cfS_else hn' hn2'
  rw [eS]
  unfold grows at h3
  unfold steps
  revert h3
  cases (execOp a.eval o).run P w with
  | ok n w' =>
    cases n <;> simp only [growsUpon, stepsUpon] <;> first | exact fun h => h | exact fun h => h.2.mono fun e w'' ⟨v, he, hb, hv⟩ => ⟨v, he, grow_trans h.1 hb, hv⟩
  | halt x w' => simp only [growsUpon, stepsUpon]; exact fun h => h
theorem wpC_is {c : Value} (hw : Region.wanted o (yielded ops a.tmps) = true) (hn : (env.length == ic) = false) (hn2 : (env.length == pt.i) = false)
    (h1 : ∀ w, Turn (cfF F pt.g) w0 w → (∀ e ∈ o.after, Region.binds .any e = true → ∀ (x : Value) (W : VP), env[e.on]? = some (x, W) → W x w) → grows P o a w (Is c))
    (h2 : ∀ K : Act → Prop, (∀ a', wpReg P ops (cfR F pt ic w0) Q rest Vs (env ++ [(c, Is c)]) a' → K a') → K (a.put o.dst c)) : wpReg P ops (cfR F pt ic w0) Q (o :: rest) (Is c :: Vs) env a :=
  wpC_rel hw hn hn2 h1 fun x ⟨_, _, hx⟩ => by
    obtain rfl : x = c := hx
    exact h2
theorem wpC_call {V : VP} (hw : Region.wanted o (yielded ops a.tmps) = true) (hic : (env.length == ic) = true)
    (h1 : ∀ w, Below w0.heap.size w0 w → (∀ e ∈ o.after, Region.binds .any e = true → ∀ (x : Value) (W : VP), env[e.on]? = some (x, W) → W x w) → steps P o a w (Turn F) V)
    (h2 : ∀ x, (∃ w, Turn (cfF F pt.g) w0 w ∧ V x w) → ∀ K : Act → Prop, (∀ a', wpReg P ops (cfR F pt ic w0) Q rest Vs (env ++ [(x, V)]) a' → K a') → K (a.put o.dst x)) : wpReg P ops (cfR F pt ic w0) Q (o :: rest) (V :: Vs) env a := by
  obtain rfl : env.length = ic := by simpa using hic
  refine ⟨?_, fun x hx => h2 x hx _ fun _ h => h⟩
  rw [if_pos hw]
  intro w hC hf
  have hC : Below w0.heap.size w0 w := by
    simp only [cfR] at hC
    rw [if_pos trivial] at hC
    exact hC
  have eS : (cfR F pt env.length w0).S env.length = Turn F := cfS_call
  rw [eS]
  exact h1 w hC hf
theorem wpC_skip (hw : Region.wanted o (yielded ops a.tmps) = false) (h2 : ∀ K : Act → Prop, (∀ a', wpReg P ops (cfR F pt ic w0) Q rest Vs (env ++ [(undef, Is undef)]) a' → K a') → K (a.put o.dst undef)) : wpReg P ops (cfR F pt ic w0) Q (o :: rest) (Is undef :: Vs) env a := by
  refine ⟨by rw [if_neg (by rw [hw]; simp)]; exact fun _ _ => rfl, fun x ⟨w, _, hx⟩ => ?_⟩
  obtain rfl : x = undef := hx
  exact h2 _ fun _ h => h
theorem wpC_end (h : ∀ w, Turn (cfF F pt.g) w0 w → (∀ (j : Nat) (x : Value) (W : VP), env[j]? = some (x, W) → W x w) → Q a w) : wpReg P ops (cfR F pt ic w0) Q [] [] env a := h
/-- The whole variable is stored. -/
theorem wpC_store (cs : Array Value) (hw : Region.wanted o (yielded ops a.tmps) = true) (hic : pt.i ≠ ic) (hi0 : (env.length == pt.i) = true) (ty : TypeId) (x y : Operand) (ho : o.op = .store ty x y) (hx : a.eval x = .pointer (some ⟨pt.g, 0, none⟩)) (hy : a.eval y = .agg cs)
    (hi : (P.info? ty).map (·.size) = some cs.size) (h1 : cs.all (·.oneCell') = true) {old : Array Value} (hb : Blk w0 pt.g pt.t old) (hold : old.size = cs.size) (hF : ¬ F pt.g) (h0 : pt.o = 0) (hn : pt.n = cs.size)
    (h2 : ∀ K : Act → Prop, (∀ a', wpReg P ops (cfR F pt ic w0) Q rest Vs (env ++ [(undef, HasV pt.g pt.t (Is (.agg cs)))]) a' → K a') → K (a.put o.dst undef)) : wpReg P ops (cfR F pt ic w0) Q (o :: rest) (HasV pt.g pt.t (Is (.agg cs)) :: Vs) env a := by
  have hi0' : env.length = pt.i := by simpa using hi0
  refine ⟨?_, fun x ⟨w, _, hx⟩ => ?_⟩
  · rw [if_pos hw]
    intro w hC hf
    have hC : Turn F w0 w := by
      simp only [cfR] at hC
      rw [if_neg (by omega), if_pos hi0'] at hC
      exact hC
    have h3 : Blk w pt.g pt.t old := (hC.block pt.g hb.lt hF).trans hb
    have eS : (cfR F pt ic w0).S env.length = Puts pt := by rw [hi0']; exact cfS_store hic
    rw [eS]
    have hrun : (execOp a.eval o).run P w = .ok .skip (w.setRow pt.g cs) := by
      unfold execOp
      simp only [ho, hx, hy, Instr.storeAt, Instr.sureAddr, Sem.run_bind, Sem.run_pure, Result.andThen_ok, run_storeVar_row w pt.g pt.t ty old cs h3 hi hold h1]
    have hpt : Puts pt w (w.setRow pt.g cs) := ⟨old, cs, h3, hold.symm, fun k hk => by
      have : cs.size ≤ k := by
        rcases Nat.lt_or_ge k cs.size with h5 | h5
        · exact absurd ⟨rfl, by omega, by omega⟩ hk
        · exact h5
      rw [Array.getElem?_eq_none this, Array.getElem?_eq_none (by omega)], rfl⟩
    unfold steps
    rw [hrun]
    exact ⟨hpt, rfl, cs, Blk.setRow h3 cs, rfl⟩
  · obtain ⟨rfl, _⟩ := hx
    exact h2 _ fun _ h => h
end
end
end Go.Proofs.YtildohndbeagaaaGreatDoor
