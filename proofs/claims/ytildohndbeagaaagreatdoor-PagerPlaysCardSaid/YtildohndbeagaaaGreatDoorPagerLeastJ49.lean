/- What the proof of PagerLeast needs, part 49. -/
import Derived.Test.YtildohndbeagaaaGreatDoorPagerLeastJ45

namespace Go.Proofs.YtildohndbeagaaaGreatDoor
open Go Go.RowKit
set_option linter.unusedVariables false
set_option linter.unusedSimpArgs false

def coS (F : Nat → Prop) (ic i : Nat) : World → World → Prop := if i = ic then Turn F else fun w w' => Below w.heap.size w w'
def coR (F : Nat → Prop) (ic : Nat) (w0 : World) : RegFr := ⟨coS F ic, fun j => if j = ic then Below w0.heap.size w0 else Turn F w0, Turn F w0⟩
def VCo (F : Nat → Prop) (ic j : Nat) (V : VP) : Prop := Stays V ∧ (j ≠ ic → ∀ v w w', Turn F w w' → V v w → V v w')
def CoOk (F : Nat → Prop) (ic : Nat) : Nat → List VP → Prop
  | _, [] => True
  | j, V :: Vs => VCo F ic j V ∧ CoOk F ic (j + 1) Vs
theorem coOk {F : Nat → Prop} {ic : Nat} : ∀ {Vs : List VP} {n : Nat}, CoOk F ic n Vs → ∀ j, j < Vs.length → VCo F ic (n + j) (vAt Vs j)
  | V :: Vs, n, h, 0, _ => h.1
  | V :: Vs, n, h, j + 1, hj => by
    have := coOk h.2 j (by simp only [List.length_cons] at hj; omega)
    rw [show n + 1 + j = n + (j + 1) from by omega] at this
    exact this
theorem VCo.is (F : Nat → Prop) (ic j : Nat) (c : Value) : VCo F ic j (Is c) := ⟨Stays.is c, fun _ _ _ _ _ h => h⟩
section
variable {P : Program} {ops : Array Oper} {F : Nat → Prop} {ic : Nat} {w0 : World}
theorem coS_call : coS F ic ic = Turn F := by unfold coS; rw [if_pos rfl]
theorem coS_else {i : Nat} (h : i ≠ ic) : coS F ic i = fun w w' => Below w.heap.size w w' := by unfold coS; rw [if_neg h]
theorem co_turn {i : Nat} {w w' : World} (hS : coS F ic i w w') (hE : Turn F w0 w) : Turn F w0 w' := by
  unfold coS at hS
  split at hS
  · exact hE.trans hS fun b hb => .inl hb
  · exact hE.trans (Turn.of_below (F := F) hS) fun b hb => .inl hb
theorem coR_ok {Vs : List VP} (hlen : Vs.length = ops.size) (h : CoOk F ic 0 Vs) : (coR F ic w0).Ok ops Vs := by
  refine ⟨fun i j hi hj hne hwt x w w' hS hv => ?_, fun i j hi hj hne hwt w w' hS hC => ?_, fun i hi w w' hS hE => co_turn hS hE⟩
  · have h1 := coOk h j (by omega)
    rw [Nat.zero_add] at h1
    have hS : coS F ic i w w' := hS
    by_cases h2 : i = ic
    · subst h2
      rw [coS_call] at hS
      exact h1.2 (Ne.symm hne) x w w' hS hv
    · rw [coS_else h2] at hS
      exact h1.1 x w w' hS hv
  · have hS : coS F ic i w w' := hS
    simp only [coR] at hC ⊢
    by_cases hj2 : j = ic
    · subst hj2
      rw [if_pos rfl] at hC ⊢
      rw [coS_else hne] at hS
      exact hC.trans (Below.mono hS hC.size)
    · rw [if_neg hj2] at hC ⊢
      exact co_turn hS hC
theorem wp_region_co {id : Nat} {Q' : Exit → Act → World → Prop} {l : List Oper} {a0 : Act} (F : Nat → Prop) (ic : Nat) (hm : P.follows .mixedOrders = true) (hg : growB l.toArray = true)
    (h : ∃ Vs, wpReg P l.toArray (coR F ic w0) (fun a w => Q' .normal a w) l Vs [] a0 ∧ CoOk F ic 0 Vs ∧ Vs.length = l.length) : (Code.region id l.toArray true).wp P Q' a0 w0 := by
  obtain ⟨Vs, h0, hS, hlen⟩ := h
  refine wp_region_reg l hm hg (coR_ok (by simpa using hlen) hS) hlen ((Turn.refl _ _).drew) (fun j _ => ?_) h0
  simp only [coR]
  split
  · exact (Below.refl _ _).drew
  · exact (Turn.refl _ _).drew
section
variable {Q : Act → World → Prop} {a : Act} {o : Oper} {rest : List Oper} {Vs : List VP} {env : List (Value × VP)}
theorem wpO_rel {V : VP} (hw : Region.wanted o (yielded ops a.tmps) = true) (hn : (env.length == ic) = false)
    (h1 : ∀ w, Turn F w0 w → (∀ e ∈ o.after, Region.binds .any e = true → ∀ (x : Value) (W : VP), env[e.on]? = some (x, W) → W x w) → grows P o a w V)
    (h2 : ∀ x, (∃ w, Turn F w0 w ∧ V x w) → ∀ K : Act → Prop, (∀ a', wpReg P ops (coR F ic w0) Q rest Vs (env ++ [(x, V)]) a' → K a') → K (a.put o.dst x)) : wpReg P ops (coR F ic w0) Q (o :: rest) (V :: Vs) env a := by
  have hn' : env.length ≠ ic := by simpa using hn
  refine ⟨?_, fun x hx => h2 x hx _ fun _ h => h⟩
  rw [if_pos hw]
  intro w hC hf
  have hC : Turn F w0 w := by
    simp only [coR] at hC
    rw [if_neg hn'] at hC
    exact hC
  have h3 := h1 w hC hf
  have eS : (coR F ic w0).S env.length = fun w w' => Below w.heap.size w w' := coS_else hn'
  rw [eS]
  unfold grows at h3
  unfold steps
  revert h3
  cases (execOp a.eval o).run P w with
  | ok n w' =>
    cases n <;> simp only [growsUpon, stepsUpon] <;> first | exact fun h => h | exact fun h => h.2.mono fun e w'' ⟨v, he, hb, hv⟩ => ⟨v, he, grow_trans h.1 hb, hv⟩
  | halt x w' => simp only [growsUpon, stepsUpon]; exact fun h => h
theorem wpO_is {c : Value} (hw : Region.wanted o (yielded ops a.tmps) = true) (hn : (env.length == ic) = false)
    (h1 : ∀ w, Turn F w0 w → (∀ e ∈ o.after, Region.binds .any e = true → ∀ (x : Value) (W : VP), env[e.on]? = some (x, W) → W x w) → grows P o a w (Is c))
    (h2 : ∀ K : Act → Prop, (∀ a', wpReg P ops (coR F ic w0) Q rest Vs (env ++ [(c, Is c)]) a' → K a') → K (a.put o.dst c)) : wpReg P ops (coR F ic w0) Q (o :: rest) (Is c :: Vs) env a :=
  wpO_rel hw hn h1 fun x ⟨_, _, hx⟩ => by
    obtain rfl : x = c := hx
    exact h2
theorem wpO_call {V : VP} (hw : Region.wanted o (yielded ops a.tmps) = true) (hic : (env.length == ic) = true)
    (h1 : ∀ w, Below w0.heap.size w0 w → (∀ e ∈ o.after, Region.binds .any e = true → ∀ (x : Value) (W : VP), env[e.on]? = some (x, W) → W x w) → steps P o a w (Turn F) V)
    (h2 : ∀ x, (∃ w, Turn F w0 w ∧ V x w) → ∀ K : Act → Prop, (∀ a', wpReg P ops (coR F ic w0) Q rest Vs (env ++ [(x, V)]) a' → K a') → K (a.put o.dst x)) : wpReg P ops (coR F ic w0) Q (o :: rest) (V :: Vs) env a := by
  obtain rfl : env.length = ic := by simpa using hic
  refine ⟨?_, fun x hx => h2 x hx _ fun _ h => h⟩
  rw [if_pos hw]
  intro w hC hf
  have hC : Below w0.heap.size w0 w := by
    simp only [coR] at hC
    rw [if_pos trivial] at hC
    exact hC
  have eS : (coR F env.length w0).S env.length = Turn F := coS_call
  rw [eS]
  exact h1 w hC hf
theorem wpO_end (h : ∀ w, Turn F w0 w → (∀ (j : Nat) (x : Value) (W : VP), env[j]? = some (x, W) → W x w) → Q a w) : wpReg P ops (coR F ic w0) Q [] [] env a := h
/-- A whole variable is read. -/
theorem wpO_load (cs : Array Value) (hw : Region.wanted o (yielded ops a.tmps) = true) (hn : (env.length == ic) = false) (ty : TypeId) (x : Operand) (ho : o.op = .load ty x) (g : Nat) (hx : a.eval x = .pointer (some ⟨g, 0, none⟩))
    {t : TypeId} {d : TypeDesc} (hu : P.underlying ty = some d) (hd : (match d with | .struct _ | .array _ _ => true | _ => false) = true) (hi : (P.info? ty).map (·.size) = some cs.size) (hb : Blk w0 g t cs) (hg : ¬ F g)
    (h2 : ∀ K : Act → Prop, (∀ a', wpReg P ops (coR F ic w0) Q rest Vs (env ++ [(.agg cs, Is (.agg cs))]) a' → K a') → K (a.put o.dst (.agg cs))) : wpReg P ops (coR F ic w0) Q (o :: rest) (Is (.agg cs) :: Vs) env a := by
  refine wpO_is hw hn (fun w hC _ => ?_) h2
  have hb2 : Blk w g t cs := by
    unfold Blk
    rw [hC.block g hb.lt hg]
    exact hb
  have hrun : (execOp a.eval o).run P w = .ok (.value (.agg cs)) w := by
    unfold execOp
    simp only [ho, hx, Instr.loadAt, Instr.sureAddr, Sem.run_bind, Sem.run_pure, Result.andThen_ok, run_loadVar_row w g t ty cs (0, 0) d hb2 hu hd hi]
  unfold grows
  rw [hrun]
  exact grows_value _ _
/-- A call that only makes new memory, of one answer. -/
theorem wpO_quiet {c : Value} {f : FuncId} {args : Array Value} (hw : Region.wanted o (yielded ops a.tmps) = true) (hn : (env.length == ic) = false)
    (hrun : ∀ w, (execOp a.eval o).run P w = .ok (.enter f args) w) (hc : ∀ w, Calls P f args w fun e w' => e = .returned c ∧ Below w.heap.size w w')
    (h2 : ∀ K : Act → Prop, (∀ a', wpReg P ops (coR F ic w0) Q rest Vs (env ++ [(c, Is c)]) a' → K a') → K (a.put o.dst c)) : wpReg P ops (coR F ic w0) Q (o :: rest) (Is c :: Vs) env a := by
  refine wpO_is hw hn (fun w _ _ => ?_) h2
  unfold grows
  rw [hrun w]
  exact ⟨Below.refl _ _, (hc w).mono fun e w' ⟨he, hb⟩ => ⟨c, he, hb, rfl⟩⟩
end
end
end Go.Proofs.YtildohndbeagaaaGreatDoor
