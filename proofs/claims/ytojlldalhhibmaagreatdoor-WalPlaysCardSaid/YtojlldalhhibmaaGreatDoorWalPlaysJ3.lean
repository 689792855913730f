/- What the proof of WalPlays needs, part 3. -/
import Derived.Test.YtojlldalhhibmaaGreatDoorWalPlaysJ2
import Derived.Orders
import Derived.Deep.Quiet
import Derived.Laws.Rows

namespace Go.Proofs.YtojlldalhhibmaaGreatDoor
open Go Go.RowKit
set_option linter.unusedVariables false
set_option linter.unusedSimpArgs false

/-- What a value is, in a world. -/
abbrev VP := Value → World → Prop
/-- The one value. -/
def Is (c : Value) : VP := fun v _ => v = c
def Stays (V : VP) : Prop := ∀ v w w', Below w.heap.size w w' → V v w → V v w'
theorem Stays.is (c : Value) : Stays (Is c) := fun _ _ _ _ h => h

section
variable {P : Program} {ops : Array Oper}

def growsUpon (P : Program) (w : World) (V : VP) : Result Next → Prop
  | .ok (.value u) w' => Below w.heap.size w w' ∧ V u w'
  | .ok .skip w' => Below w.heap.size w w' ∧ V undef w'
  | .ok (.enter f args) w' => Below w.heap.size w w' ∧ Calls P f args w' (fun e w'' => ∃ v, e = .returned v ∧ Below w'.heap.size w' w'' ∧ V v w'')
  | _ => False
/-- Run in w, the operation yields a value of V; memory has only grown. -/
def grows (P : Program) (o : Oper) (a : Act) (w : World) (V : VP) : Prop := growsUpon P w V ((execOp a.eval o).run P w)

theorem grow_trans {a b c : World} (h : Below a.heap.size a b) (k : Below b.heap.size b c) : Below a.heap.size a c := h.trans (k.mono h.size)

theorem wp_of_grows {o : Oper} {a : Act} {w : World} {V : VP} {K : Act → World → Prop} {Q : Exit → Act → World → Prop} (h : grows P o a w V)
    (hK : ∀ v w', Below w.heap.size w w' → V v w' → K (a.put o.dst v) w') : o.wp P a w K Q := by
  unfold grows at h
  unfold Oper.wp
  generalize (execOp a.eval o).run P w = r at *
  cases r with
  | ok n w' =>
    cases n <;> simp only [growsUpon] at h <;> simp only [Oper.upon]
    case value u => exact hK _ _ h.1 h.2
    case skip => exact hK _ _ h.1 h.2
    case enter f args =>
      exact h.2.mono fun e w'' ⟨v, he, hb, hv⟩ => by subst he; exact hK _ _ (grow_trans h.1 hb) hv
  | halt x w' => simp only [growsUpon] at h

theorem exists_of_grows {o : Oper} {a : Act} {w : World} {V : VP} (h : grows P o a w V) : ∃ v w', Below w.heap.size w w' ∧ V v w' := by
  unfold grows at h
  generalize (execOp a.eval o).run P w = r at *
  cases r with
  | ok n w' =>
    cases n <;> simp only [growsUpon] at h
    case value u => exact ⟨u, w', h⟩
    case skip => exact ⟨_, w', h⟩
    case enter f args =>
      obtain ⟨e, w'', fr, ⟨v, _, hb, hv⟩, _⟩ := h.2 []
      exact ⟨v, w'', grow_trans h.1 hb, hv⟩
  | halt x w' => simp only [growsUpon] at h

/-- The walk in the order of the text. 'env': what the operations ahead have yielded. -/
def wpGrow (P : Program) (ops : Array Oper) (C : World → Prop) (Q : Act → World → Prop) : List Oper → List VP → List (Value × VP) → Act → Prop
  | o :: rest, V :: Vs, env, a =>
    (if Region.wanted o (yielded ops a.tmps) then ∀ w, C w → (∀ e ∈ o.after, Region.binds .any e = true → ∀ (x : Value) (W : VP), env[e.on]? = some (x, W) → W x w) → grows P o a w V else ∀ w, C w → V undef w) ∧
    ∀ x, (∃ w, C w ∧ V x w) → wpGrow P ops C Q rest Vs (env ++ [(x, V)]) (a.put o.dst x)
  | [], [], env, a => ∀ w, C w → (∀ (j : Nat) (x : Value) (W : VP), env[j]? = some (x, W) → W x w) → Q a w
  | _, _, _, _ => False

def dstOf (ops : Array Oper) (j : Nat) : Option Tmp := (ops[j]?).bind (·.dst)
/-- Operation i waits for j. -/
def waits (ops : Array Oper) (i j : Nat) : Bool := ((ops[i]?).map fun (o : Oper) => o.after.any fun e => e.on == j && Region.binds .any e).getD false

/-- What the theorem asks of the region's text: each waits for earlier ones alone; no slot is written twice; what an operation looks at is written by one for which it waits, or by one that waits for it, or by none other. -/
def growB (ops : Array Oper) : Bool :=
  (List.range ops.size).all fun i =>
    ((List.range ops.size).all fun j => (!waits ops i j || decide (j < i)) && (decide (i = j) || (dstOf ops i).isNone || dstOf ops i != dstOf ops j) &&
      (match ops[i]?, dstOf ops j with
       | some o, some s => !(o.looksAt ops).contains s || waits ops i j || waits ops j i || decide (i = j)
       | _, _ => true))
      && ((ops[i]?).map fun (o : Oper) => match o.op with | .select _ _ => false | _ => o.after.all fun e => !Region.binds .any e || decide (e.on < i)).getD true

theorem growB_spec (h : growB ops = true) : (∀ (i : Nat) (o : Oper), ops[i]? = some o → ∀ e ∈ o.after, Region.binds .any e = true → e.on < i) ∧
    (∀ (i j : Nat) (s : Tmp), i < ops.size → j < ops.size → dstOf ops i = some s → dstOf ops j = some s → i = j) ∧
    (∀ (i j : Nat) (o : Oper) (s : Tmp), ops[i]? = some o → j < ops.size → dstOf ops j = some s → s ∈ o.looksAt ops → waits ops i j = true ∨ waits ops j i = true ∨ i = j) ∧
    (∀ (i : Nat) (o : Oper) cs b, ops[i]? = some o → o.op ≠ .select cs b) := by
  unfold growB at h
  rw [List.all_eq_true] at h
  have hall : ∀ i, i < ops.size → _ := fun i hi => (Bool.and_eq_true _ _).mp (h i (List.mem_range.2 hi))
  have hlt : ∀ {i o}, ops[i]? = some o → i < ops.size := fun ho => (Array.getElem?_eq_some_iff.1 ho).1
  refine ⟨fun i o ho e he hb => ?_, fun i j s hi hj h1 h2 => ?_, fun i j o s ho hj hd hs => ?_, fun i o cs b ho hop => ?_⟩
  · have h2 := (hall i (hlt ho)).2
    rw [ho] at h2
    simp only [Option.map_some, Option.getD_some] at h2
    split at h2
    · cases h2
    · rw [Array.all_eq_true_iff_forall_mem] at h2
      have := h2 e he
      simpa [hb] using this
  · have h3 := (hall i hi).1
    rw [List.all_eq_true] at h3
    have h4 := h3 j (List.mem_range.2 hj)
    simp only [Bool.and_eq_true] at h4
    have h5 := h4.1.2
    rw [h1, h2] at h5
    simpa using h5
  · have h3 := (hall i (hlt ho)).1
    rw [List.all_eq_true] at h3
    have h4 := h3 j (List.mem_range.2 hj)
    simp only [Bool.and_eq_true] at h4
    have h5 := h4.2
    rw [ho, hd] at h5
    simp only [Bool.or_eq_true, Bool.not_eq_true', decide_eq_true_eq] at h5
    rcases h5 with ((h5 | h5) | h5) | h5
    · simp only [List.contains_eq_mem, decide_eq_false_iff_not] at h5
      exact absurd hs h5
    · exact .inl h5
    · exact .inr (.inl h5)
    · exact .inr (.inr h5)
  · have h2 := (hall i (hlt ho)).2
    rw [ho] at h2
    simp only [Option.map_some, Option.getD_some, hop] at h2
    cases h2

theorem waits_iff {i j : Nat} {o : Oper} (ho : ops[i]? = some o) : waits ops i j = true ↔ ∃ e ∈ o.after, e.on = j ∧ Region.binds .any e = true := by
  unfold waits
  rw [ho]
  simp only [Option.map_some, Option.getD_some, Array.any_eq_true, Bool.and_eq_true, beq_iff_eq]
  constructor
  · rintro ⟨k, hk, h⟩
    exact ⟨_, Array.getElem_mem hk, h⟩
  · rintro ⟨e, he, h⟩
    obtain ⟨k, hk, rfl⟩ := Array.mem_iff_getElem.1 he
    exact ⟨k, hk, h⟩

/-- Slot by slot: where the operations that 'f' tells have been laid. -/
structure Laid (ops : Array Oper) (a0 : Act) (f : Nat → Option Value) (a : Act) : Prop where
  defers : a.defers = a0.defers
  size : a.tmps.size = a0.tmps.size
  put : ∀ j s x, j < ops.size → dstOf ops j = some s → f j = some x → a.tmps[s]? = (a0.tmps[s]?).map fun _ => x
  off : ∀ s, (∀ j, j < ops.size → dstOf ops j = some s → f j = none) → a.tmps[s]? = a0.tmps[s]?

theorem Laid.start (a0 : Act) : Laid ops a0 (fun _ => none) a0 := ⟨rfl, rfl, (fun _ _ _ _ _ h => by cases h), fun _ _ => rfl⟩

theorem Laid.next {a0 a : Act} {f : Nat → Option Value} (hg : growB ops = true) (h : Laid ops a0 f a) {k : Nat} {o : Oper} (ho : ops[k]? = some o) (hf : f k = none) (x : Value) :
    Laid ops a0 (fun j => if j = k then some x else f j) (a.put o.dst x) := by
  obtain ⟨_, hdist, _, _⟩ := growB_spec hg
  have hk : k < ops.size := (Array.getElem?_eq_some_iff.1 ho).1
  have hdk : dstOf ops k = o.dst := by simp [dstOf, ho]
  cases hd : o.dst with
  | none =>
    refine ⟨h.defers, h.size, fun j s y hj hs hy => ?_, fun s hs => ?_⟩
    · have hne : j ≠ k := by rintro rfl; rw [hdk, hd] at hs; cases hs
      simp only [hne, if_false] at hy
      exact h.put j s y hj hs hy
    · refine h.off s fun j hj hjs => ?_
      have hne : j ≠ k := by rintro rfl; rw [hdk, hd] at hjs; cases hjs
      have := hs j hj hjs
      simpa only [hne, if_false] using this
  | some d =>
    refine ⟨h.defers, by simp [Act.put, h.size], fun j s y hj hs hy => ?_, fun s hs => ?_⟩
    · by_cases hjk : j = k
      · subst hjk
        rw [hdk, hd] at hs
        obtain rfl : d = s := by simpa using hs
        simp only [if_true] at hy
        obtain rfl : x = y := by simpa using hy
        show (a.tmps.setIfInBounds d x)[d]? = _
        have e := h.off d (fun j' hj' hs' => by
          have := hdist j' j d hj' hj hs' (by rw [hdk, hd])
          subst this
          exact hf)
        rcases Nat.lt_or_ge d a.tmps.size with hlt | hge
        · rw [Array.getElem?_setIfInBounds_self_of_lt hlt, ← e, Array.getElem?_eq_getElem hlt]; rfl
        · rw [← e, Array.getElem?_eq_none (by simpa using hge), Array.getElem?_eq_none hge]; rfl
      · simp only [hjk, if_false] at hy
        have hne : d ≠ s := by
          rintro rfl
          exact hjk (hdist j k d hj hk hs (by rw [hdk, hd]))
        show (a.tmps.setIfInBounds d x)[s]? = _
        rw [Array.getElem?_setIfInBounds_ne hne]
        exact h.put j s y hj hs hy
    · have hne : d ≠ s := by
        rintro rfl
        have := hs k hk (by rw [hdk, hd])
        simp at this
      show (a.tmps.setIfInBounds d x)[s]? = _
      rw [Array.getElem?_setIfInBounds_ne hne]
      refine h.off s fun j hj hjs => ?_
      have hjk : j ≠ k := by
        rintro rfl
        rw [hdk, hd] at hjs
        exact hne (by simpa using hjs)
      have := hs j hj hjs
      simpa only [hjk, if_false] using this

/-- Frames that agree where an operation looks are one to it. -/
theorem exec_agree {o : Oper} (hsel : ∀ cs b, o.op ≠ .select cs b) {a a' : Act} (h : ∀ t ∈ o.looksAt ops, a.tmps[t]? = a'.tmps[t]?) :
    execOp a.eval o = execOp a'.eval o ∧ Region.wanted o (yielded ops a.tmps) = Region.wanted o (yielded ops a'.tmps) := by
  constructor
  · refine execOp_congr o hsel fun x hx => ?_
    cases x with
    | tmp t =>
      have := h t (List.mem_append_left _ (List.mem_filterMap.2 ⟨.tmp t, by simpa using hx, rfl⟩))
      simp only [Act.eval, Array.getD_eq_getD_getElem?, this]
    | _ => rfl
  · unfold Region.wanted
    cases hg : o.guard with
    | none => rfl
    | some gw =>
      obtain ⟨g, want⟩ := gw
      have hy : yielded ops a.tmps g = yielded ops a'.tmps g := by
        unfold yielded
        cases ht : (ops[g]?).bind (·.dst) with
        | none => rfl
        | some t =>
          have := h t (by simp [Oper.looksAt, hg, ht])
          simp [this]
      simp only [hy]

theorem Laid.congr {a0 a : Act} {f g : Nat → Option Value} (h : Laid ops a0 f a) (hfg : ∀ j, j < ops.size → f j = g j) : Laid ops a0 g a :=
  ⟨h.defers, h.size, fun j s x hj hs hx => h.put j s x hj hs (by rw [hfg j hj]; exact hx), fun s hs => h.off s fun j hj hjs => by rw [hfg j hj]; exact hs j hj hjs⟩

theorem Laid.same {a0 a a' : Act} {f : Nat → Option Value} (h : Laid ops a0 f a) (h' : Laid ops a0 f a') : a = a' := by
  have ht : a.tmps = a'.tmps := by
    apply Array.ext_getElem?
    intro s
    by_cases hs : ∃ j x, j < ops.size ∧ dstOf ops j = some s ∧ f j = some x
    · obtain ⟨j, x, hj, hd, hf⟩ := hs
      rw [h.put j s x hj hd hf, h'.put j s x hj hd hf]
    · have hoff : ∀ j, j < ops.size → dstOf ops j = some s → f j = none := fun j hj hd => by
        cases hf : f j with
        | none => rfl
        | some x => exact absurd ⟨j, x, hj, hd, hf⟩ hs
      rw [h.off s hoff, h'.off s hoff]
  have hd : a.defers = a'.defers := h.defers.trans h'.defers.symm
  cases a
  cases a'
  simp only at ht hd
  subst ht hd
  rfl

/-- The frame behind the first k operations, in the order of the text, y being what they yielded. -/
def lexA (ops : Array Oper) (a0 : Act) (y : Nat → Value) : Nat → Act
  | 0 => a0
  | k + 1 => (lexA ops a0 y k).put (dstOf ops k) (y k)

theorem lexA_laid (hg : growB ops = true) (a0 : Act) (y : Nat → Value) : ∀ k, k ≤ ops.size → Laid ops a0 (fun j => if j < k then some (y j) else none) (lexA ops a0 y k)
  | 0, _ => (Laid.start a0).congr fun j _ => by simp
  | k + 1, hk => by
    have ho : ops[k]? = some ops[k] := Array.getElem?_eq_getElem (by omega)
    have h := (lexA_laid hg a0 y k (by omega)).next hg ho (by simp) (y k)
    have e : dstOf ops k = ops[k].dst := by simp [dstOf, ho]
    rw [lexA, e]
    refine h.congr fun j _ => ?_
    by_cases hj : j = k
    · subst hj; simp
    · by_cases hj2 : j < k
      · simp [hj, hj2, Nat.lt_succ_of_lt hj2]
      · have : ¬ j < k + 1 := by omega
        simp [hj, hj2, this]

theorem lexA_eq {a0 : Act} {y z : Nat → Value} : ∀ k, (∀ j, j < k → y j = z j) → lexA ops a0 y k = lexA ops a0 z k
  | 0, _ => rfl
  | k + 1, h => by rw [lexA, lexA, lexA_eq k fun j hj => h j (by omega), h k (by omega)]

def vAt (Vs : List VP) (j : Nat) : VP := Vs.getD j fun _ _ => True
def envAt (Vs : List VP) (y : Nat → Value) (k : Nat) : List (Value × VP) := (List.range k).map fun j => (y j, vAt Vs j)
theorem envAt_get {Vs : List VP} {y : Nat → Value} {k j : Nat} {x : Value} {W : VP} (h : (envAt Vs y k)[j]? = some (x, W)) : j < k ∧ x = y j ∧ W = vAt Vs j := by
  unfold envAt at h
  rw [List.getElem?_map] at h
  rcases Nat.lt_or_ge j k with hj | hj
  · rw [List.getElem?_range hj] at h
    simp only [Option.map_some, Option.some.injEq, Prod.mk.injEq] at h
    exact ⟨hj, h.1.symm, h.2.symm⟩
  · rw [List.getElem?_eq_none (by simpa using hj)] at h
    cases h

variable {C : World → Prop} {Q : Act → World → Prop} {Vs : List VP} {a0 : Act}

theorem wpGrow_at (hlen : Vs.length = ops.size) (h0 : wpGrow P ops C Q ops.toList Vs [] a0) (y : Nat → Value) : ∀ k, k ≤ ops.size → (∀ j, j < k → ∃ w, C w ∧ vAt Vs j (y j) w) →
    wpGrow P ops C Q (ops.toList.drop k) (Vs.drop k) (envAt Vs y k) (lexA ops a0 y k)
  | 0, _, _ => by simpa [envAt, lexA] using h0
  | k + 1, hk, hy => by
    have ih := wpGrow_at hlen h0 y k (by omega) fun j hj => hy j (by omega)
    have hk1 : k < ops.toList.length := by rw [Array.length_toList]; omega
    have hk2 : k < Vs.length := by omega
    rw [List.drop_eq_getElem_cons (l := ops.toList) hk1, List.drop_eq_getElem_cons (l := Vs) hk2] at ih
    have h2 := ih.2 (y k) (by
      obtain ⟨w, hw, hv⟩ := hy k (by omega)
      refine ⟨w, hw, ?_⟩
      have e : vAt Vs k = Vs[k]'(by omega) := by simp [vAt, List.getD, List.getElem?_eq_getElem (show k < Vs.length by omega)]
      rw [e] at hv
      exact hv)
    have e1 : envAt Vs y (k + 1) = envAt Vs y k ++ [(y k, Vs[k]'(by omega))] := by
      simp [envAt, List.range_succ, vAt, List.getD, List.getElem?_eq_getElem (show k < Vs.length by omega)]
    have e2 : lexA ops a0 y (k + 1) = (lexA ops a0 y k).put (ops.toList[k]'(by rw [Array.length_toList]; omega)).dst (y k) := by
      rw [lexA]
      congr 1
      simp [dstOf, Array.getElem?_eq_getElem (show k < ops.size by omega)]
    rw [e1, e2]
    exact h2

theorem getD_of {l : Array Bool} {j : Nat} (h : l.getD j true = false) : l.getD j false = false := by
  rcases Nat.lt_or_ge j l.size with hj | hj
  · simpa [Array.getD, hj] using h
  · simp [Array.getD, hj, Nat.not_lt.2 hj]

/-- What has not come up yet could come up in the order of the text. -/
theorem exists_prefix (hg : growB ops = true) (hS : ∀ V ∈ Vs, Stays V) (hC : ∀ w w', C w → Below w.heap.size w w' → C w') (hlen : Vs.length = ops.size)
    (h0 : wpGrow P ops C Q ops.toList Vs [] a0) {w : World} (hw : C w) {L : Nat → Bool} {x : Nat → Value} (hx : ∀ j, j < ops.size → L j = true → vAt Vs j (x j) w) :
    ∀ k, k ≤ ops.size → ∃ (y : Nat → Value) (w' : World), Below w.heap.size w w' ∧ (∀ j, L j = true → y j = x j) ∧ ∀ j, j < k → vAt Vs j (y j) w'
  | 0, _ => ⟨x, w, Below.refl _ _, fun _ _ => rfl, fun j hj => by omega⟩
  | k + 1, hk => by
    obtain ⟨y, w', hb, hyx, hy⟩ := exists_prefix hg hS hC hlen h0 hw hx k (by omega)
    have hst : ∀ j, j < ops.size → Stays (vAt Vs j) := fun j hj => by
      have e : vAt Vs j = Vs[j]'(by omega) := by simp [vAt, List.getD, List.getElem?_eq_getElem (show j < Vs.length by omega)]
      rw [e]
      exact hS _ (List.getElem_mem _)
    have hcw' := hC w w' hw hb
    by_cases hL : L k = true
    · refine ⟨y, w', hb, hyx, fun j hj => ?_⟩
      by_cases hjk : j = k
      · subst hjk
        rw [hyx j hL]
        exact hst j (by omega) _ _ _ hb (hx j (by omega) hL)
      · exact hy j (by omega)
    · have hat := wpGrow_at hlen h0 y k (by omega) fun j hj => ⟨w', hcw', hy j hj⟩
      have hk1 : k < ops.toList.length := by rw [Array.length_toList]; omega
      have hk2 : k < Vs.length := by omega
      rw [List.drop_eq_getElem_cons (l := ops.toList) hk1, List.drop_eq_getElem_cons (l := Vs) hk2] at hat
      have e : vAt Vs k = Vs[k]'(by omega) := by simp [vAt, List.getD, List.getElem?_eq_getElem (show k < Vs.length by omega)]
      have hex : ∃ v w'', Below w'.heap.size w' w'' ∧ vAt Vs k v w'' := by
        have h1 := hat.1
        split at h1
        · obtain ⟨v, w'', hbb, hv⟩ := exists_of_grows (h1 w' hcw' fun e he hbd x W hxW => by
            obtain ⟨hlt, rfl, rfl⟩ := envAt_get hxW
            exact hy _ hlt)
          exact ⟨v, w'', hbb, by rw [e]; exact hv⟩
        · exact ⟨undef, w', Below.refl _ _, by rw [e]; exact h1 w' hcw'⟩
      obtain ⟨v, w'', hbb, hv⟩ := hex
      refine ⟨fun j => if j = k then v else y j, w'', grow_trans hb hbb, fun j hj => ?_, fun j hj => ?_⟩
      · have hne : j ≠ k := by rintro rfl; exact hL hj
        simp only [hne, if_false]
        exact hyx j hj
      · by_cases hjk : j = k
        · subst hjk
          simpa using hv
        · simp only [hjk, if_false]
          exact hst j (by omega) _ _ _ hbb (hy j (by omega))

theorem len_filter_lt {α : Type} {p q : α → Bool} : ∀ (l : List α), (∀ x ∈ l, q x = true → p x = true) → ∀ i ∈ l, p i = true → q i = false → (l.filter q).length < (l.filter p).length
  | [], _, i, hi, _, _ => by cases hi
  | a :: l, hpq, i, hi, hp, hq => by
    have hle : ∀ (l : List α), (∀ x ∈ l, q x = true → p x = true) → (l.filter q).length ≤ (l.filter p).length := by
      intro l
      induction l with
      | nil => intro _; simp
      | cons b l ih =>
        intro h
        have := ih fun x hx => h x (List.mem_cons_of_mem _ hx)
        by_cases hqb : q b = true
        · simp [List.filter_cons, hqb, h b (List.mem_cons_self ..) hqb]; omega
        · by_cases hpb : p b = true <;> simp [List.filter_cons, hqb, hpb] <;> omega
    have h2 := hle l fun x hx => hpq x (List.mem_cons_of_mem _ hx)
    rcases List.mem_cons.1 hi with rfl | hi'
    · simp [List.filter_cons, hp, hq]; omega
    · have h3 := len_filter_lt l (fun x hx => hpq x (List.mem_cons_of_mem _ hx)) i hi' hp hq
      by_cases hqb : q a = true
      · simp [List.filter_cons, hqb, hpq a (List.mem_cons_self ..) hqb]; omega
      · by_cases hpb : p a = true <;> simp [List.filter_cons, hqb, hpb] <;> omega

def unl (n : Nat) (listed : Array Bool) : Nat := ((List.range n).filter fun j => !listed.getD j true).length

theorem wpGrow_any (hg : growB ops = true) (hS : ∀ V ∈ Vs, Stays V) (hC : ∀ w w', C w → Below w.heap.size w w' → C w') (hlen : Vs.length = ops.size)
    (h0 : wpGrow P ops C Q ops.toList Vs [] a0) {Q' : Exit → Act → World → Prop} (hQ : ∀ a w, Q a w → Q' .normal a w) :
    ∀ (fuel : Nat) (listed : Array Bool) (a : Act) (w : World) (x : Nat → Value), listed.size = ops.size → C w → Laid ops a0 (fun j => if listed.getD j false then some (x j) else none) a →
      (∀ j, j < ops.size → listed.getD j false = true → vAt Vs j (x j) w) → (∀ (i : Nat) (o : Oper), ops[i]? = some o → listed.getD i false = true → ∀ e ∈ o.after, Region.binds .any e = true → listed.getD e.on false = true) →
      unl ops.size listed ≤ fuel → wpAny P .any ops Q' fuel listed a w := by
  obtain ⟨hs1, hs2, hs3, hs4⟩ := growB_spec hg
  have hlt : ∀ {i : Nat} {o : Oper}, ops[i]? = some o → i < ops.size := fun ho => (Array.getElem?_eq_some_iff.1 ho).1
  -- where nothing may come up any more, all has come up
  have hend : ∀ (listed : Array Bool) (a : Act) (w : World) (x : Nat → Value), listed.size = ops.size → C w → Laid ops a0 (fun j => if listed.getD j false then some (x j) else none) a →
      (∀ j, j < ops.size → listed.getD j false = true → vAt Vs j (x j) w) → Region.ready .any ops listed = [] → Q' .normal a w := by
    intro listed a w x hsz hw hL hx hr
    have hall : ∀ n, ∀ j, j < n → j < ops.size → listed.getD j false = true := by
      intro n
      induction n with
      | zero => intro j hj; omega
      | succ n ih =>
        intro j hj hjs
        rcases Nat.lt_or_ge j n with hjn | hjn
        · exact ih j hjn hjs
        · obtain rfl : j = n := by omega
          cases hlj : listed.getD j false with
          | true => rfl
          | false =>
            exfalso
            have : j ∈ Region.ready .any ops listed := mem_ready.2 ⟨by
              have hj' : j < listed.size := by omega
              simpa [Array.getD, hj'] using hlj, ops[j], Array.getElem?_eq_getElem hjs, fun e he hb => ih e.on (hs1 j _ (Array.getElem?_eq_getElem hjs) e he hb) (by have := hs1 j _ (Array.getElem?_eq_getElem hjs) e he hb; omega)⟩
            rw [hr] at this
            cases this
    have hat := wpGrow_at hlen h0 x ops.size (Nat.le_refl _) fun j hj => ⟨w, hw, hx j hj (hall _ j hj hj)⟩
    rw [List.drop_of_length_le (by simp), List.drop_of_length_le (by omega)] at hat
    have hq := hat w hw fun j x' W hxW => by
      obtain ⟨hj, rfl, rfl⟩ := envAt_get hxW
      exact hx j hj (hall _ j hj hj)
    have he : a = lexA ops a0 x ops.size := Laid.same hL ((lexA_laid hg a0 x ops.size (Nat.le_refl _)).congr fun j hj => by simp only [hj, if_true, hall _ j hj hj])
    rw [he]
    exact hQ _ _ hq
  intro fuel
  induction fuel with
  | zero =>
    intro listed a w x hsz hw hL hx hcl hf
    have hr : Region.ready .any ops listed = [] := by
      rw [List.eq_nil_iff_forall_not_mem]
      intro i hi
      obtain ⟨h1, o, ho, _⟩ := mem_ready.1 hi
      have : i ∈ (List.range ops.size).filter fun j => !listed.getD j true := List.mem_filter.2 ⟨List.mem_range.2 (hlt ho), by rw [h1]; rfl⟩
      have hz : ((List.range ops.size).filter fun j => !listed.getD j true) = [] := List.eq_nil_of_length_eq_zero (by unfold unl at hf; omega)
      rw [hz] at this
      cases this
    exact ⟨hr, hend listed a w x hsz hw hL hx hr⟩
  | succ fuel ih =>
    intro listed a w x hsz hw hL hx hcl hf
    refine ⟨fun hr => hend listed a w x hsz hw hL hx hr, fun i hi => ?_⟩
    obtain ⟨hi1, o, ho, hdeps⟩ := mem_ready.1 hi
    have hin := hlt ho
    have hi2 := getD_of hi1
    have eV : vAt Vs i = Vs[i]'(by omega) := by simp [vAt, List.getD, List.getElem?_eq_getElem (show i < Vs.length by omega)]
    obtain ⟨y, w', hb, hyx, hy⟩ := exists_prefix hg hS hC hlen h0 hw (L := fun j => listed.getD j false) hx i (by omega)
    have hat := wpGrow_at hlen h0 y i (by omega) fun j hj => ⟨w', hC w w' hw hb, hy j hj⟩
    have hk1 : i < ops.toList.length := by rw [Array.length_toList]; omega
    have hk2 : i < Vs.length := by omega
    rw [List.drop_eq_getElem_cons (l := ops.toList) hk1, List.drop_eq_getElem_cons (l := Vs) hk2] at hat
    have eo : ops.toList[i]'(by simpa using hin) = o := by
      have := Array.getElem?_eq_getElem hin
      rw [ho] at this
      simpa using (Option.some.inj this).symm
    rw [eo, ← eV] at hat
    have hlex := lexA_laid hg a0 y i (by omega)
    have hag : ∀ t ∈ o.looksAt ops, a.tmps[t]? = (lexA ops a0 y i).tmps[t]? := by
      intro t ht
      by_cases hj : ∃ j, j < ops.size ∧ dstOf ops j = some t
      · obtain ⟨j, hjn, hjd⟩ := hj
        have only : ∀ j', j' < ops.size → dstOf ops j' = some t → j' = j := fun j' h1 h2 => hs2 j' j t h1 hjn h2 hjd
        have hother : (listed.getD j false = false) → i ≤ j → a.tmps[t]? = (lexA ops a0 y i).tmps[t]? := fun h1 h2 => by
          rw [hL.off t fun j' hj' hd' => by rw [only j' hj' hd', h1]; rfl, hlex.off t fun j' hj' hd' => by
            rw [only j' hj' hd']
            have : ¬ j < i := by omega
            simp [this]]
        rcases hs3 i j o t ho hjn hjd ht with h | h | h
        · obtain ⟨e, he, rfl, hbd⟩ := (waits_iff ho).1 h
          have hl := hdeps e he hbd
          have hji := hs1 i o ho e he hbd
          rw [hL.put e.on t (x e.on) hjn hjd (by rw [hl]; rfl), hlex.put e.on t (y e.on) hjn hjd (by simp [hji]), hyx e.on hl]
        · obtain ⟨e, he, rfl, hbd⟩ := (waits_iff (Array.getElem?_eq_getElem hjn)).1 h
          have hlt2 := hs1 j _ (Array.getElem?_eq_getElem hjn) e he hbd
          refine hother ?_ (by omega)
          cases hlj : listed.getD j false with
          | false => rfl
          | true =>
            have := hcl j _ (Array.getElem?_eq_getElem hjn) hlj e he hbd
            rw [hi2] at this
            cases this
        · subst h
          exact hother hi2 (Nat.le_refl _)
      · rw [hL.off t fun j hjn hjd => absurd ⟨j, hjn, hjd⟩ hj, hlex.off t fun j hjn hjd => absurd ⟨j, hjn, hjd⟩ hj]
    obtain ⟨hex, hwant⟩ := exec_agree (ops := ops) (hs4 i o · · ho) hag
    have hnext : ∀ v w2, C w2 → Below w.heap.size w w2 → vAt Vs i v w2 → wpAny P .any ops Q' fuel (listed.setIfInBounds i true) (a.put o.dst v) w2 := by
      intro v w2 hw2 hb2 hv
      have hset : ∀ j, (listed.setIfInBounds i true).getD j false = if j = i then true else listed.getD j false := fun j => by
        by_cases hji : j = i
        · subst hji
          have : j < listed.size := by omega
          simp [Array.getD, this]
        · rw [getD_set_ne false (fun e => hji e.symm)]
          simp [hji]
      refine ih _ _ _ (fun j => if j = i then v else x j) (by simpa using hsz) hw2 ?_ ?_ ?_ ?_
      · refine (hL.next hg ho (by rw [hi2]; rfl) v).congr fun j hj => ?_
        rw [hset]
        by_cases hji : j = i <;> simp [hji]
      · intro j hj hlj
        rw [hset] at hlj
        by_cases hji : j = i
        · subst hji; simpa using hv
        · simp only [hji, if_false] at hlj ⊢
          have e : vAt Vs j = Vs[j]'(by omega) := by simp [vAt, List.getD, List.getElem?_eq_getElem (show j < Vs.length by omega)]
          have := hx j hj hlj
          rw [e] at this ⊢
          exact hS _ (List.getElem_mem _) _ _ _ hb2 this
      · intro k ok hok hlk e he hbd
        rw [hset] at hlk ⊢
        by_cases hki : k = i
        · subst hki
          obtain rfl : ok = o := by rw [ho] at hok; exact (Option.some.inj hok).symm
          have := hdeps e he hbd
          by_cases h' : e.on = k <;> simp [h', this]
        · simp only [hki, if_false] at hlk
          have := hcl k ok hok hlk e he hbd
          by_cases h' : e.on = i <;> simp [h', this]
      · have : unl ops.size (listed.setIfInBounds i true) < unl ops.size listed := by
          refine len_filter_lt (List.range ops.size) (fun j _ hq => ?_) i (List.mem_range.2 hin) (by rw [hi1]; rfl) ?_
          · by_cases hji : j = i
            · subst hji; rw [hi1]; rfl
            · rwa [getD_set_ne true (fun e => hji e.symm)] at hq
          · have : i < listed.size := by omega
            simp [Array.getD, this]
        omega
    unfold wpOp
    simp only [ho]
    rw [hwant]
    have h1 := hat.1
    split
    · rename_i hwt
      rw [if_pos hwt] at h1
      refine .inl (wp_of_grows (V := vAt Vs i) ?_ fun v w2 hb2 hv => hnext v w2 (hC _ _ hw hb2) hb2 hv)
      unfold grows
      rw [hex]
      exact h1 w hw fun e he hbd x' W hxW => by
        obtain ⟨hlt2, rfl, rfl⟩ := envAt_get hxW
        have hl := hdeps e he hbd
        rw [hyx _ hl]
        exact hx _ (by omega) hl
    · rename_i hwt
      rw [if_neg hwt] at h1
      exact hnext undef w hw (Below.refl _ _) (h1 w hw)

/-- **ONE WALK IN THE ORDER OF THE TEXT SERVES EVERY ORDER**, where memory only grows. -/
theorem wp_region_grow {id : Nat} {Q' : Exit → Act → World → Prop} {w0 : World} (l : List Oper) (hm : P.follows .mixedOrders = true) (hg : growB l.toArray = true) (Vs : List VP) (hS : ∀ V ∈ Vs, Stays V) (hlen : Vs.length = l.length)
    (h0 : wpGrow P l.toArray (fun w => Below w0.heap.size w0 w) (fun a w => Q' .normal a w) l Vs [] a0) : (Code.region id l.toArray true).wp P Q' a0 w0 := by
  refine wp_region_any hm (wpGrow_any (C := fun w => Below w0.heap.size w0 w) (Q := fun a w => Q' .normal a w) hg hS (fun w w' h k => grow_trans h k) (by simpa using hlen) (by simpa using h0) (fun a w h => h) _ _ _ _ (fun _ => undef) (by simp) ?_ ?_ ?_ ?_ ?_)
  · exact ⟨rfl, rfl, rfl, Nat.le_refl _, fun _ _ => rfl⟩
  · refine (Laid.start a0).congr fun j hj => ?_
    have : (Array.replicate l.toArray.size false).getD j false = false := by unfold Array.getD; split <;> simp
    rw [this]
    rfl
  · intro j hj h
    have : (Array.replicate l.toArray.size false).getD j false = false := by unfold Array.getD; split <;> simp
    rw [this] at h
    cases h
  · intro i o ho h
    have : (Array.replicate l.toArray.size false).getD i false = false := by unfold Array.getD; split <;> simp
    rw [this] at h
    cases h
  · unfold unl
    exact Nat.le_trans (List.length_filter_le _ _) (by simp)

/-! ### The walk, step by step -/
def AllStay : List VP → Prop
  | [] => True
  | V :: Vs => Stays V ∧ AllStay Vs
theorem allStay : ∀ {Vs : List VP}, AllStay Vs → ∀ V ∈ Vs, Stays V
  | V :: Vs, h, W, hW => by
    rcases List.mem_cons.1 hW with rfl | hW
    · exact h.1
    · exact allStay h.2 W hW

theorem wp_region_grow_lit {id : Nat} {Q' : Exit → Act → World → Prop} {w0 : World} {l : List Oper} {a0 : Act} (hm : P.follows .mixedOrders = true) (hg : growB l.toArray = true)
    (h : ∃ Vs, wpGrow P l.toArray (fun w => Below w0.heap.size w0 w) (fun a w => Q' .normal a w) l Vs [] a0 ∧ AllStay Vs ∧ Vs.length = l.length) : (Code.region id l.toArray true).wp P Q' a0 w0 := by
  obtain ⟨Vs, h0, hS, hlen⟩ := h
  exact wp_region_grow l hm hg Vs (allStay hS) hlen h0

variable {C : World → Prop} {Q : Act → World → Prop} {a : Act} {o : Oper} {rest : List Oper} {Vs : List VP} {env : List (Value × VP)}

theorem wpGrow_is {c : Value} (hw : Region.wanted o (yielded ops a.tmps) = true)
    (h1 : ∀ w, C w → (∀ e ∈ o.after, Region.binds .any e = true → ∀ (x : Value) (W : VP), env[e.on]? = some (x, W) → W x w) → grows P o a w (Is c))
    (h2 : ∀ K : Act → Prop, (∀ a', wpGrow P ops C Q rest Vs (env ++ [(c, Is c)]) a' → K a') → K (a.put o.dst c)) : wpGrow P ops C Q (o :: rest) (Is c :: Vs) env a := by
  refine ⟨by rw [if_pos hw]; exact h1, fun x ⟨w, _, hx⟩ => ?_⟩
  obtain rfl : x = c := hx
  exact h2 _ fun _ h => h
theorem wpGrow_rel {V : VP} (hw : Region.wanted o (yielded ops a.tmps) = true)
    (h1 : ∀ w, C w → (∀ e ∈ o.after, Region.binds .any e = true → ∀ (x : Value) (W : VP), env[e.on]? = some (x, W) → W x w) → grows P o a w V)
    (h2 : ∀ x, (∃ w, C w ∧ V x w) → ∀ K : Act → Prop, (∀ a', wpGrow P ops C Q rest Vs (env ++ [(x, V)]) a' → K a') → K (a.put o.dst x)) : wpGrow P ops C Q (o :: rest) (V :: Vs) env a :=
  ⟨by rw [if_pos hw]; exact h1, fun x hx => h2 x hx _ fun _ h => h⟩
theorem wpGrow_skip (hw : Region.wanted o (yielded ops a.tmps) = false) (h2 : ∀ K : Act → Prop, (∀ a', wpGrow P ops C Q rest Vs (env ++ [(undef, Is undef)]) a' → K a') → K (a.put o.dst undef)) : wpGrow P ops C Q (o :: rest) (Is undef :: Vs) env a := by
  refine ⟨by rw [if_neg (by rw [hw]; simp)]; exact fun _ _ => rfl, fun x ⟨w, _, hx⟩ => ?_⟩
  obtain rfl : x = undef := hx
  exact h2 _ fun _ h => h
theorem wpGrow_end (h : ∀ w, C w → (∀ (j : Nat) (x : Value) (W : VP), env[j]? = some (x, W) → W x w) → Q a w) : wpGrow P ops C Q [] [] env a := h

theorem grows_value (w : World) (v : Value) : growsUpon P w (Is v) (.ok (.value v) w) := ⟨Below.refl _ _, rfl⟩
theorem grows_call {f : FuncId} {args : Array Value} {w : World} {v : Value} (h : Calls P f args w fun e w' => e = .returned v ∧ Below w.heap.size w w') : growsUpon P w (Is v) (.ok (.enter f args) w) :=
  ⟨Below.refl _ _, h.mono fun e w' ⟨he, hb⟩ => ⟨v, he, hb, rfl⟩⟩
theorem grows_same {f : FuncId} {args : Array Value} {w : World} {v : Value} (h : Calls P f args w fun e w' => e = .returned v ∧ w = w') : growsUpon P w (Is v) (.ok (.enter f args) w) :=
  grows_call (h.mono fun _ _ ⟨he, hw⟩ => ⟨he, hw ▸ Below.refl _ _⟩)
theorem grows_drawn {f : FuncId} {args : Array Value} {w : World} {v : Value} (h : Calls P f args w fun e w' => e = .returned v ∧ Drawn w w') : growsUpon P w (Is v) (.ok (.enter f args) w) :=
  grows_call (h.mono fun _ _ ⟨he, hw⟩ => ⟨he, hw.below _⟩)

end
end Go.Proofs.YtojlldalhhibmaaGreatDoor

namespace Go.Proofs.YtojlldalhhibmaaGreatDoor
open Go Go.RowKit
set_option linter.unusedVariables false
set_option linter.unusedSimpArgs false

section
variable {P : Program} {ops : Array Oper}

def stepsUpon (P : Program) (w : World) (S : World → World → Prop) (V : VP) : Result Next → Prop
  | .ok (.value u) w' => S w w' ∧ V u w'
  | .ok .skip w' => S w w' ∧ V undef w'
  | .ok (.enter f args) w' => Calls P f args w' (fun e w'' => ∃ v, e = .returned v ∧ S w w'' ∧ V v w'')
  | _ => False
/-- Run in w, the operation makes a step of S and yields a value of V. -/
def steps (P : Program) (o : Oper) (a : Act) (w : World) (S : World → World → Prop) (V : VP) : Prop := stepsUpon P w S V ((execOp a.eval o).run P w)

theorem wp_of_steps {o : Oper} {a : Act} {w : World} {S : World → World → Prop} {V : VP} {K : Act → World → Prop} {Q : Exit → Act → World → Prop} (h : steps P o a w S V)
    (hK : ∀ v w', S w w' → V v w' → K (a.put o.dst v) w') : o.wp P a w K Q := by
  unfold steps at h
  unfold Oper.wp
  generalize (execOp a.eval o).run P w = r at *
  cases r with
  | ok n w' =>
    cases n <;> simp only [stepsUpon] at h <;> simp only [Oper.upon]
    case value u => exact hK _ _ h.1 h.2
    case skip => exact hK _ _ h.1 h.2
    case enter f args => exact h.mono fun e w'' ⟨v, he, hb, hv⟩ => by subst he; exact hK _ _ hb hv
  | halt x w' => simp only [stepsUpon] at h

theorem exists_of_steps {o : Oper} {a : Act} {w : World} {S : World → World → Prop} {V : VP} (h : steps P o a w S V) : ∃ v w', S w w' ∧ V v w' := by
  unfold steps at h
  generalize (execOp a.eval o).run P w = r at *
  cases r with
  | ok n w' =>
    cases n <;> simp only [stepsUpon] at h
    case value u => exact ⟨u, w', h⟩
    case skip => exact ⟨_, w', h⟩
    case enter f args =>
      obtain ⟨e, w'', fr, ⟨v, _, hb, hv⟩, _⟩ := h []
      exact ⟨v, w'', hb, hv⟩
  | halt x w' => simp only [stepsUpon] at h

/-- S: what each operation may do to the world; C: in what worlds it may come up; E: what holds all the while. -/
structure RegFr where
  S : Nat → World → World → Prop
  C : Nat → World → Prop
  E : World → Prop

/-- The walk in the order of the text. 'env': what the operations ahead have yielded. -/
def wpReg (P : Program) (ops : Array Oper) (R : RegFr) (Q : Act → World → Prop) : List Oper → List VP → List (Value × VP) → Act → Prop
  | o :: rest, V :: Vs, env, a =>
    (if Region.wanted o (yielded ops a.tmps) then ∀ w, R.C env.length w → (∀ e ∈ o.after, Region.binds .any e = true → ∀ (x : Value) (W : VP), env[e.on]? = some (x, W) → W x w) → steps P o a w (R.S env.length) V else ∀ w, R.C env.length w → V undef w) ∧
    ∀ x, (∃ w, R.E w ∧ V x w) → wpReg P ops R Q rest Vs (env ++ [(x, V)]) (a.put o.dst x)
  | [], [], env, a => ∀ w, R.E w → (∀ (j : Nat) (x : Value) (W : VP), env[j]? = some (x, W) → W x w) → Q a w
  | _, _, _, _ => False

structure RegFr.Ok (R : RegFr) (ops : Array Oper) (Vs : List VP) : Prop where
  V : ∀ i j, i < ops.size → j < ops.size → i ≠ j → waits ops j i = false → ∀ x w w', R.S i w w' → vAt Vs j x w → vAt Vs j x w'
  C : ∀ i j, i < ops.size → j < ops.size → i ≠ j → waits ops i j = false → ∀ w w', R.S i w w' → R.C j w → R.C j w'
  E : ∀ i, i < ops.size → ∀ w w', R.S i w w' → R.E w → R.E w'

theorem envAt_len (Vs : List VP) (y : Nat → Value) (k : Nat) : (envAt Vs y k).length = k := by simp [envAt]

variable {R : RegFr} {Q : Act → World → Prop} {Vs : List VP} {a0 : Act}

theorem wpReg_at (hlen : Vs.length = ops.size) (h0 : wpReg P ops R Q ops.toList Vs [] a0) (y : Nat → Value) : ∀ k, k ≤ ops.size → (∀ j, j < k → ∃ w, R.E w ∧ vAt Vs j (y j) w) →
    wpReg P ops R Q (ops.toList.drop k) (Vs.drop k) (envAt Vs y k) (lexA ops a0 y k)
  | 0, _, _ => by simpa [envAt, lexA] using h0
  | k + 1, hk, hy => by
    have ih := wpReg_at hlen h0 y k (by omega) fun j hj => hy j (by omega)
    have hk1 : k < ops.toList.length := by rw [Array.length_toList]; omega
    have hk2 : k < Vs.length := by omega
    rw [List.drop_eq_getElem_cons (l := ops.toList) hk1, List.drop_eq_getElem_cons (l := Vs) hk2] at ih
    have h2 := ih.2 (y k) (by
      obtain ⟨w, hw, hv⟩ := hy k (by omega)
      refine ⟨w, hw, ?_⟩
      have e : vAt Vs k = Vs[k]'(by omega) := by simp [vAt, List.getD, List.getElem?_eq_getElem (show k < Vs.length by omega)]
      rw [e] at hv
      exact hv)
    have e1 : envAt Vs y (k + 1) = envAt Vs y k ++ [(y k, Vs[k]'(by omega))] := by
      simp [envAt, List.range_succ, vAt, List.getD, List.getElem?_eq_getElem (show k < Vs.length by omega)]
    have e2 : lexA ops a0 y (k + 1) = (lexA ops a0 y k).put (ops.toList[k]'(by rw [Array.length_toList]; omega)).dst (y k) := by
      rw [lexA]
      congr 1
      simp [dstOf, Array.getElem?_eq_getElem (show k < ops.size by omega)]
    rw [e1, e2]
    exact h2

theorem waits_lt (hg : growB ops = true) {i j : Nat} (hi : i < ops.size) (h : waits ops i j = true) : j < i := by
  obtain ⟨e, he, rfl, hb⟩ := (waits_iff (Array.getElem?_eq_getElem hi)).1 h
  exact (growB_spec hg).1 i _ (Array.getElem?_eq_getElem hi) e he hb

/-- What has not come up yet could come up in the order of the text. -/
theorem reg_prefix (hg : growB ops = true) (hR : R.Ok ops Vs) (hlen : Vs.length = ops.size)
    (h0 : wpReg P ops R Q ops.toList Vs [] a0) {w : World} (hE : R.E w) {L : Nat → Bool} {x : Nat → Value} (hx : ∀ j, j < ops.size → L j = true → vAt Vs j (x j) w) (hcl : ∀ (i : Nat) (o : Oper), ops[i]? = some o → L i = true → ∀ e ∈ o.after, Region.binds .any e = true → L e.on = true) (hC : ∀ j, j < ops.size → L j = false → R.C j w) :
    ∀ k, k ≤ ops.size → ∃ (y : Nat → Value) (w' : World), R.E w' ∧ (∀ j, L j = true → y j = x j) ∧ (∀ j, j < ops.size → L j = true ∨ j < k → vAt Vs j (y j) w') ∧ ∀ j, j < ops.size → L j = false → k ≤ j → R.C j w'
  | 0, _ => ⟨x, w, hE, fun _ _ => rfl, fun j hj h => h.elim (hx j hj) (fun h => by omega), fun j hj hl _ => hC j hj hl⟩
  | k + 1, hk => by
    obtain ⟨y, w', hE', hyx, hy, hC'⟩ := reg_prefix hg hR hlen h0 hE hx hcl hC k (by omega)
    by_cases hL : L k = true
    · refine ⟨y, w', hE', hyx, fun j hj h => hy j hj ?_, fun j hj hl hkj => hC' j hj hl (by omega)⟩
      rcases h with h | h
      · exact .inl h
      · by_cases hjk : j = k
        · subst hjk; exact .inl hL
        · exact .inr (by omega)
    · have hL' : L k = false := by simpa using hL
      have hcw := hC' k (by omega) hL' (Nat.le_refl _)
      have hat := wpReg_at hlen h0 y k (by omega) fun j hj => ⟨w', hE', hy j (by omega) (.inr hj)⟩
      have hk1 : k < ops.toList.length := by rw [Array.length_toList]; omega
      have hk2 : k < Vs.length := by omega
      rw [List.drop_eq_getElem_cons (l := ops.toList) hk1, List.drop_eq_getElem_cons (l := Vs) hk2] at hat
      have e : vAt Vs k = Vs[k]'(by omega) := by simp [vAt, List.getD, List.getElem?_eq_getElem (show k < Vs.length by omega)]
      have hex : ∃ v w'', (w'' = w' ∨ R.S k w' w'') ∧ vAt Vs k v w'' := by
        have h1 := hat.1
        rw [envAt_len] at h1
        split at h1
        · obtain ⟨v, w'', hbb, hv⟩ := exists_of_steps (h1 w' hcw fun e he hbd x W hxW => by
            obtain ⟨hlt, rfl, rfl⟩ := envAt_get hxW
            exact hy _ (by omega) (.inr hlt))
          exact ⟨v, w'', .inr hbb, by rw [e]; exact hv⟩
        · exact ⟨undef, w', .inl rfl, by rw [e]; exact h1 w' hcw⟩
      obtain ⟨v, w'', hst, hv⟩ := hex
      refine ⟨fun j => if j = k then v else y j, w'', ?_, fun j hj => ?_, fun j hj h => ?_, fun j hj hl hkj => ?_⟩
      · rcases hst with rfl | hst
        · exact hE'
        · exact hR.E k (by omega) _ _ hst hE'
      · have hne : j ≠ k := by rintro rfl; exact hL hj
        simp only [hne, if_false]
        exact hyx j hj
      · by_cases hjk : j = k
        · subst hjk
          simpa using hv
        · simp only [hjk, if_false]
          have h4 := hy j hj (h.elim .inl fun h => .inr (by omega))
          rcases hst with rfl | hst
          · exact h4
          · refine hR.V k j (by omega) hj (fun e => hjk e.symm) ?_ _ _ _ hst h4
            cases hwt : waits ops j k with
            | false => rfl
            | true =>
              have hkj := waits_lt hg hj hwt
              rcases h with h | h
              · obtain ⟨e, he, he2, hbd⟩ := (waits_iff (Array.getElem?_eq_getElem hj)).1 hwt
                have := hcl j _ (Array.getElem?_eq_getElem hj) h e he hbd
                rw [he2, hL'] at this
                cases this
              · omega
      · have h4 := hC' j hj hl (by omega)
        rcases hst with rfl | hst
        · exact h4
        · refine hR.C k j (by omega) hj (by omega) ?_ _ _ hst h4
          cases hwt : waits ops k j with
          | false => rfl
          | true => exact absurd (waits_lt hg (by omega) hwt) (by omega)

theorem wpReg_any (hg : growB ops = true) (hR : R.Ok ops Vs) (hlen : Vs.length = ops.size)
    (h0 : wpReg P ops R Q ops.toList Vs [] a0) {Q' : Exit → Act → World → Prop} (hQ : ∀ a w, Q a w → Q' .normal a w) :
    ∀ (fuel : Nat) (listed : Array Bool) (a : Act) (w : World) (x : Nat → Value), listed.size = ops.size → R.E w → (∀ j, j < ops.size → listed.getD j false = false → R.C j w) → Laid ops a0 (fun j => if listed.getD j false then some (x j) else none) a →
      (∀ j, j < ops.size → listed.getD j false = true → vAt Vs j (x j) w) → (∀ (i : Nat) (o : Oper), ops[i]? = some o → listed.getD i false = true → ∀ e ∈ o.after, Region.binds .any e = true → listed.getD e.on false = true) →
      unl ops.size listed ≤ fuel → wpAny P .any ops Q' fuel listed a w := by
  obtain ⟨hs1, hs2, hs3, hs4⟩ := growB_spec hg
  have hlt : ∀ {i : Nat} {o : Oper}, ops[i]? = some o → i < ops.size := fun ho => (Array.getElem?_eq_some_iff.1 ho).1
  -- where nothing may come up any more, all has come up
  have hend : ∀ (listed : Array Bool) (a : Act) (w : World) (x : Nat → Value), listed.size = ops.size → R.E w → Laid ops a0 (fun j => if listed.getD j false then some (x j) else none) a →
      (∀ j, j < ops.size → listed.getD j false = true → vAt Vs j (x j) w) → Region.ready .any ops listed = [] → Q' .normal a w := by
    intro listed a w x hsz hw hL hx hr
    have hall : ∀ n, ∀ j, j < n → j < ops.size → listed.getD j false = true := by
      intro n
      induction n with
      | zero => intro j hj; omega
      | succ n ih =>
        intro j hj hjs
        rcases Nat.lt_or_ge j n with hjn | hjn
        · exact ih j hjn hjs
        · obtain rfl : j = n := by omega
          cases hlj : listed.getD j false with
          | true => rfl
          | false =>
            exfalso
            have : j ∈ Region.ready .any ops listed := mem_ready.2 ⟨by
              have hj' : j < listed.size := by omega
              simpa [Array.getD, hj'] using hlj, ops[j], Array.getElem?_eq_getElem hjs, fun e he hb => ih e.on (hs1 j _ (Array.getElem?_eq_getElem hjs) e he hb) (by have := hs1 j _ (Array.getElem?_eq_getElem hjs) e he hb; omega)⟩
            rw [hr] at this
            cases this
    have hat := wpReg_at hlen h0 x ops.size (Nat.le_refl _) fun j hj => ⟨w, hw, hx j hj (hall _ j hj hj)⟩
    rw [List.drop_of_length_le (by simp), List.drop_of_length_le (by omega)] at hat
    have hq := hat w hw fun j x' W hxW => by
      obtain ⟨hj, rfl, rfl⟩ := envAt_get hxW
      exact hx j hj (hall _ j hj hj)
    have he : a = lexA ops a0 x ops.size := Laid.same hL ((lexA_laid hg a0 x ops.size (Nat.le_refl _)).congr fun j hj => by simp only [hj, if_true, hall _ j hj hj])
    rw [he]
    exact hQ _ _ hq
  intro fuel
  induction fuel with
  | zero =>
    intro listed a w x hsz hw hC hL hx hcl hf
    have hr : Region.ready .any ops listed = [] := by
      rw [List.eq_nil_iff_forall_not_mem]
      intro i hi
      obtain ⟨h1, o, ho, _⟩ := mem_ready.1 hi
      have : i ∈ (List.range ops.size).filter fun j => !listed.getD j true := List.mem_filter.2 ⟨List.mem_range.2 (hlt ho), by rw [h1]; rfl⟩
      have hz : ((List.range ops.size).filter fun j => !listed.getD j true) = [] := List.eq_nil_of_length_eq_zero (by unfold unl at hf; omega)
      rw [hz] at this
      cases this
    exact ⟨hr, hend listed a w x hsz hw hL hx hr⟩
  | succ fuel ih =>
    intro listed a w x hsz hw hC hL hx hcl hf
    refine ⟨fun hr => hend listed a w x hsz hw hL hx hr, fun i hi => ?_⟩
    obtain ⟨hi1, o, ho, hdeps⟩ := mem_ready.1 hi
    have hin := hlt ho
    have hi2 := getD_of hi1
    have eV : vAt Vs i = Vs[i]'(by omega) := by simp [vAt, List.getD, List.getElem?_eq_getElem (show i < Vs.length by omega)]
    obtain ⟨y, w', hE', hyx, hy, _⟩ := reg_prefix hg hR hlen h0 hw (L := fun j => listed.getD j false) hx hcl hC i (by omega)
    have hat := wpReg_at hlen h0 y i (by omega) fun j hj => ⟨w', hE', hy j (by omega) (.inr hj)⟩
    have hk1 : i < ops.toList.length := by rw [Array.length_toList]; omega
    have hk2 : i < Vs.length := by omega
    rw [List.drop_eq_getElem_cons (l := ops.toList) hk1, List.drop_eq_getElem_cons (l := Vs) hk2] at hat
    have eo : ops.toList[i]'(by simpa using hin) = o := by
      have := Array.getElem?_eq_getElem hin
      rw [ho] at this
      simpa using (Option.some.inj this).symm
    rw [eo, ← eV] at hat
    have hlex := lexA_laid hg a0 y i (by omega)
    have hag : ∀ t ∈ o.looksAt ops, a.tmps[t]? = (lexA ops a0 y i).tmps[t]? := by
      intro t ht
      by_cases hj : ∃ j, j < ops.size ∧ dstOf ops j = some t
      · obtain ⟨j, hjn, hjd⟩ := hj
        have only : ∀ j', j' < ops.size → dstOf ops j' = some t → j' = j := fun j' h1 h2 => hs2 j' j t h1 hjn h2 hjd
        have hother : (listed.getD j false = false) → i ≤ j → a.tmps[t]? = (lexA ops a0 y i).tmps[t]? := fun h1 h2 => by
          rw [hL.off t fun j' hj' hd' => by rw [only j' hj' hd', h1]; rfl, hlex.off t fun j' hj' hd' => by
            rw [only j' hj' hd']
            have : ¬ j < i := by omega
            simp [this]]
        rcases hs3 i j o t ho hjn hjd ht with h | h | h
        · obtain ⟨e, he, rfl, hbd⟩ := (waits_iff ho).1 h
          have hl := hdeps e he hbd
          have hji := hs1 i o ho e he hbd
          rw [hL.put e.on t (x e.on) hjn hjd (by rw [hl]; rfl), hlex.put e.on t (y e.on) hjn hjd (by simp [hji]), hyx e.on hl]
        · obtain ⟨e, he, rfl, hbd⟩ := (waits_iff (Array.getElem?_eq_getElem hjn)).1 h
          have hlt2 := hs1 j _ (Array.getElem?_eq_getElem hjn) e he hbd
          refine hother ?_ (by omega)
          cases hlj : listed.getD j false with
          | false => rfl
          | true =>
            have := hcl j _ (Array.getElem?_eq_getElem hjn) hlj e he hbd
            rw [hi2] at this
            cases this
        · subst h
          exact hother hi2 (Nat.le_refl _)
      · rw [hL.off t fun j hjn hjd => absurd ⟨j, hjn, hjd⟩ hj, hlex.off t fun j hjn hjd => absurd ⟨j, hjn, hjd⟩ hj]
    obtain ⟨hex, hwant⟩ := exec_agree (ops := ops) (hs4 i o · · ho) hag
    have hnext : ∀ v w2, (w2 = w ∨ R.S i w w2) → vAt Vs i v w2 → wpAny P .any ops Q' fuel (listed.setIfInBounds i true) (a.put o.dst v) w2 := by
      intro v w2 hst hv
      have hset : ∀ j, (listed.setIfInBounds i true).getD j false = if j = i then true else listed.getD j false := fun j => by
        by_cases hji : j = i
        · subst hji
          have : j < listed.size := by omega
          simp [Array.getD, this]
        · rw [getD_set_ne false (fun e => hji e.symm)]
          simp [hji]
      refine ih _ _ _ (fun j => if j = i then v else x j) (by simpa using hsz) ?_ ?_ ?_ ?_ ?_ ?_
      · rcases hst with rfl | hst
        · exact hw
        · exact hR.E i hin _ _ hst hw
      · intro j hj hlj
        rw [hset] at hlj
        by_cases hji : j = i
        · simp [hji] at hlj
        · simp only [hji, if_false] at hlj
          have h4 := hC j hj hlj
          rcases hst with rfl | hst
          · exact h4
          · refine hR.C i j hin hj (fun e => hji e.symm) ?_ _ _ hst h4
            cases hwt : waits ops i j with
            | false => rfl
            | true =>
              obtain ⟨e, he, rfl, hbd⟩ := (waits_iff ho).1 hwt
              have := hdeps e he hbd
              rw [hlj] at this
              cases this
      · refine (hL.next hg ho (by rw [hi2]; rfl) v).congr fun j hj => ?_
        rw [hset]
        by_cases hji : j = i <;> simp [hji]
      · intro j hj hlj
        rw [hset] at hlj
        by_cases hji : j = i
        · subst hji; simpa using hv
        · simp only [hji, if_false] at hlj ⊢
          have h4 := hx j hj hlj
          rcases hst with rfl | hst
          · exact h4
          · refine hR.V i j hin hj (fun e => hji e.symm) ?_ _ _ _ hst h4
            cases hwt : waits ops j i with
            | false => rfl
            | true =>
              obtain ⟨e, he, he2, hbd⟩ := (waits_iff (Array.getElem?_eq_getElem hj)).1 hwt
              have := hcl j _ (Array.getElem?_eq_getElem hj) hlj e he hbd
              rw [he2, hi2] at this
              cases this
      · intro k ok hok hlk e he hbd
        rw [hset] at hlk ⊢
        by_cases hki : k = i
        · subst hki
          obtain rfl : ok = o := by rw [ho] at hok; exact (Option.some.inj hok).symm
          have := hdeps e he hbd
          by_cases h' : e.on = k <;> simp [h', this]
        · simp only [hki, if_false] at hlk
          have := hcl k ok hok hlk e he hbd
          by_cases h' : e.on = i <;> simp [h', this]
      · have : unl ops.size (listed.setIfInBounds i true) < unl ops.size listed := by
          refine len_filter_lt (List.range ops.size) (fun j _ hq => ?_) i (List.mem_range.2 hin) (by rw [hi1]; rfl) ?_
          · by_cases hji : j = i
            · subst hji; rw [hi1]; rfl
            · rwa [getD_set_ne true (fun e => hji e.symm)] at hq
          · have : i < listed.size := by omega
            simp [Array.getD, this]
        omega
    unfold wpOp
    simp only [ho]
    rw [hwant]
    have h1 := hat.1
    rw [envAt_len] at h1
    have hci := hC i hin hi2
    split
    · rename_i hwt
      rw [if_pos hwt] at h1
      refine .inl (wp_of_steps (S := R.S i) (V := vAt Vs i) ?_ fun v w2 hb2 hv => hnext v w2 (.inr hb2) hv)
      unfold steps
      rw [hex]
      exact h1 w hci fun e he hbd x' W hxW => by
        obtain ⟨hlt2, rfl, rfl⟩ := envAt_get hxW
        have hl := hdeps e he hbd
        rw [hyx _ hl]
        exact hx _ (by omega) hl
    · rename_i hwt
      rw [if_neg hwt] at h1
      exact hnext undef w (.inl rfl) (h1 w hci)

/-- **ONE WALK IN THE ORDER OF THE TEXT SERVES EVERY ORDER.** -/
theorem wp_region_reg {id : Nat} {Q' : Exit → Act → World → Prop} {w0 : World} (l : List Oper) (hm : P.follows .mixedOrders = true) (hg : growB l.toArray = true) (hR : R.Ok l.toArray Vs) (hlen : Vs.length = l.length)
    (hE : R.E w0.drew) (hC : ∀ j, j < l.toArray.size → R.C j w0.drew)
    (h0 : wpReg P l.toArray R (fun a w => Q' .normal a w) l Vs [] a0) : (Code.region id l.toArray true).wp P Q' a0 w0 := by
  have hno : ∀ j, (Array.replicate l.toArray.size false).getD j false = false := fun j => by unfold Array.getD; split <;> simp
  refine wp_region_any hm (wpReg_any (Q := fun a w => Q' .normal a w) hg hR (by simpa using hlen) (by simpa using h0) (fun a w h => h) _ _ _ _ (fun _ => undef) (by simp) hE (fun j hj _ => hC j hj) ?_ ?_ ?_ ?_)
  · refine (Laid.start a0).congr fun j hj => ?_
    rw [hno]
    rfl
  · intro j hj h
    rw [hno] at h
    cases h
  · intro i o ho h
    rw [hno] at h
    cases h
  · unfold unl
    exact Nat.le_trans (List.length_filter_le _ _) (by simp)

/-! ### The usual frame: some operations put cells of blocks that lie there; all others only make new memory -/
/-- Operation i puts the cells o to o + n of the block g, of type t. -/
structure Pt where
  i : Nat
  g : Nat
  t : TypeId
  o : Nat
  n : Nat
def Pt.hits (p : Pt) (b k : Nat) : Prop := p.g = b ∧ p.o ≤ k ∧ k < p.o + p.n
def Puts (p : Pt) (w w' : World) : Prop := ∃ cs cs', Blk w p.g p.t cs ∧ cs'.size = cs.size ∧ (∀ k, ¬ p.hits p.g k → cs'[k]? = cs[k]?) ∧ w' = w.setRow p.g cs'
theorem heap_setRow (w : World) (g : Nat) (cs : Array Value) (b : Nat) (hb : b ≠ g) : (w.setRow g cs).heap[b]? = w.heap[b]? := by
  unfold World.setRow
  simp only [Array.getElem?_modify]
  split
  · rename_i h; exact absurd h.symm hb
  · rfl
theorem size_setRow (w : World) (g : Nat) (cs : Array Value) : (w.setRow g cs).heap.size = w.heap.size := by simp [World.setRow]
theorem Blk.same {w : World} {g : Nat} {t t' : TypeId} {cs cs' : Array Value} (h : Blk w g t cs) (h' : Blk w g t' cs') : t = t' ∧ cs = cs' := by
  unfold Blk at h h'
  rw [h] at h'
  injection h' with h'
  injection h' with h1 h2
  exact ⟨h2, h1⟩

/-- But for the cells of X, and new blocks, all is as it was. -/
structure Kept (X : Nat → Nat → Prop) (w w' : World) : Prop where
  os : w'.os = w.os
  tape : w'.tape = w.tape
  output : w'.output = w.output
  size : w.heap.size ≤ w'.heap.size
  blk : ∀ b t cs, Blk w b t cs → ∃ cs', Blk w' b t cs' ∧ cs'.size = cs.size ∧ ∀ k, ¬ X b k → cs'[k]? = cs[k]?
  rest : ∀ b, b < w.heap.size → (∀ t cs, ¬ Blk w b t cs) → w'.heap[b]? = w.heap[b]?
theorem Kept.refl (X : Nat → Nat → Prop) (w : World) : Kept X w w := ⟨rfl, rfl, rfl, Nat.le_refl _, fun _ _ cs h => ⟨cs, h, rfl, fun _ _ => rfl⟩, fun _ _ _ => rfl⟩
theorem Kept.drew (X : Nat → Nat → Prop) (w : World) : Kept X w w.drew := ⟨rfl, rfl, rfl, Nat.le_refl _, fun _ _ cs h => ⟨cs, h, rfl, fun _ _ => rfl⟩, fun _ _ _ => rfl⟩
section
variable {X Y : Nat → Nat → Prop} {w w1 w2 : World}
theorem Kept.mono (h : Kept X w w1) (hX : ∀ b k, X b k → Y b k) : Kept Y w w1 := ⟨h.os, h.tape, h.output, h.size, fun b t cs hb => by
  obtain ⟨cs', h1, h2, h3⟩ := h.blk b t cs hb
  exact ⟨cs', h1, h2, fun k hk => h3 k fun e => hk (hX b k e)⟩, h.rest⟩
theorem Kept.later (h : Kept X w w1) (k : Below w1.heap.size w1 w2) : Kept X w w2 := ⟨k.os.trans h.os, k.tape.trans h.tape, k.output.trans h.output, Nat.le_trans h.size k.size, fun b t cs hb => by
  obtain ⟨cs', h1, h2, h3⟩ := h.blk b t cs hb
  exact ⟨cs', h1.later k, h2, h3⟩, fun b hb hn => (k.block b (Nat.lt_of_lt_of_le hb h.size)).trans (h.rest b hb hn)⟩
theorem Kept.puts (h : Kept X w w1) {p : Pt} (k : Puts p w1 w2) (hX : ∀ k, p.hits p.g k → X p.g k) : Kept X w w2 := by
  obtain ⟨cs, cs', h1, h2, h3, rfl⟩ := k
  refine ⟨h.os, h.tape, h.output, by rw [size_setRow]; exact h.size, fun b t ds hb => ?_, fun b hb hn => ?_⟩
  · obtain ⟨ds', g1, g2, g3⟩ := h.blk b t ds hb
    by_cases hbg : b = p.g
    · subst hbg
      obtain ⟨rfl, rfl⟩ := g1.same h1
      exact ⟨cs', g1.setRow cs', h2.trans g2, fun k hk => (h3 k fun e => hk (hX k e)).trans (g3 k hk)⟩
    · exact ⟨ds', (heap_setRow w1 p.g cs' b hbg).trans g1, g2, g3⟩
  · by_cases hbg : b = p.g
    · subst hbg
      have := h.rest _ hb hn
      refine absurd ?_ (hn p.t cs)
      unfold Blk at h1 ⊢
      rw [← this]
      exact h1
    · exact (heap_setRow w1 p.g cs' b hbg).trans (h.rest b hb hn)
theorem Kept.at (h : Kept X w w1) {g : Nat} {t : TypeId} {cs : Array Value} (hb : Blk w g t cs) (hX : ∀ k, ¬ X g k) : Blk w1 g t cs := by
  obtain ⟨cs', h1, h2, h3⟩ := h.blk g t cs hb
  obtain rfl : cs' = cs := Array.ext_getElem? fun k => h3 k (hX k)
  exact h1
theorem Kept.heap (h : Kept X w w1) {b : Nat} (hb : b < w.heap.size) (hX : ∀ k, ¬ X b k) : w1.heap[b]? = w.heap[b]? := by
  by_cases hn : ∃ t cs, Blk w b t cs
  · obtain ⟨t, cs, hbk⟩ := hn
    have := h.at hbk hX
    unfold Blk at this hbk
    rw [this, hbk]
  · exact h.rest b hb fun t cs e => hn ⟨t, cs, e⟩
theorem Kept.below (h : Kept X w w1) {B : Nat} (hB : B ≤ w.heap.size) (hX : ∀ b k, X b k → B ≤ b) : Below B w w1 :=
  ⟨h.os, h.tape, h.output, h.size, fun b hb => h.heap (Nat.lt_of_lt_of_le hb hB) fun k e => by have := hX b k e; omega⟩
theorem Kept.cell (h : Kept X w w1) {b k : Nat} {v : Value} (hc : w.cell? ⟨b, k, none⟩ = some v) (hX : ¬ X b k) : w1.cell? ⟨b, k, none⟩ = some v := by
  by_cases hn : ∃ t cs, Blk w b t cs
  · obtain ⟨t, cs, hbk⟩ := hn
    obtain ⟨cs', h1, _, h3⟩ := h.blk b t cs hbk
    rw [hbk.cell] at hc
    rw [h1.cell, h3 k hX]
    exact hc
  · have hlt : b < w.heap.size := by
      rcases Nat.lt_or_ge b w.heap.size with h1 | h1
      · exact h1
      · simp [World.cell?, Array.getElem?_eq_none h1] at hc
    have := h.rest b hlt fun t cs e => hn ⟨t, cs, e⟩
    rw [World.cell?_of_block (a := ⟨b, k, none⟩) this]
    exact hc
end

def ptS (st : List Pt) (i : Nat) : World → World → Prop := fun w w' => match st.find? (fun p => p.i == i) with
  | some p => Puts p w w'
  | none => Below w.heap.size w w'
/-- Which cells may have turned when operation j comes up. -/
def ptX (ops : Array Oper) (st : List Pt) (j : Nat) : Nat → Nat → Prop := fun b k => ∃ p ∈ st, p.i ≠ j ∧ waits ops p.i j = false ∧ p.hits b k
def ptE (st : List Pt) : Nat → Nat → Prop := fun b k => ∃ p ∈ st, p.hits b k
def ptR (ops : Array Oper) (st : List Pt) (w0 : World) : RegFr := ⟨ptS st, fun j => Kept (ptX ops st j) w0, Kept (ptE st) w0⟩
theorem ptX_E {ops : Array Oper} {st : List Pt} {j : Nat} (b k : Nat) (h : ptX ops st j b k) : ptE st b k := by
  obtain ⟨p, h1, _, _, h2⟩ := h
  exact ⟨p, h1, h2⟩
def PStays (p : Pt) (V : VP) : Prop := ∀ v w w', Puts p w w' → V v w → V v w'
def AllOk (ops : Array Oper) (st : List Pt) : Nat → List VP → Prop
  | _, [] => True
  | j, V :: Vs => (Stays V ∧ ∀ p ∈ st, p.i ≠ j → waits ops j p.i = false → PStays p V) ∧ AllOk ops st (j + 1) Vs
theorem allOk {st : List Pt} : ∀ {Vs : List VP} {n : Nat}, AllOk ops st n Vs → ∀ j, j < Vs.length → Stays (vAt Vs j) ∧ ∀ p ∈ st, p.i ≠ n + j → waits ops (n + j) p.i = false → PStays p (vAt Vs j)
  | V :: Vs, n, h, 0, _ => h.1
  | V :: Vs, n, h, j + 1, hj => by
    have := allOk h.2 j (by simp only [List.length_cons] at hj; omega)
    rw [show n + 1 + j = n + (j + 1) from by omega] at this
    exact this
theorem pt_find {st : List Pt} {i : Nat} {p : Pt} (h : st.find? (fun p => p.i == i) = some p) : p ∈ st ∧ p.i = i := by
  have h1 := List.find?_some h
  exact ⟨List.mem_of_find?_eq_some h, by simpa using h1⟩
theorem ptR_ok {st : List Pt} {w0 : World} (hlen : Vs.length = ops.size) (h : AllOk ops st 0 Vs) : (ptR ops st w0).Ok ops Vs := by
  refine ⟨fun i j hi hj hne hwt x w w' hS hv => ?_, fun i j hi hj hne hwt w w' hS hC => ?_, fun i hi w w' hS hE => ?_⟩
  · have h1 := allOk h j (by omega)
    rw [Nat.zero_add] at h1
    simp only [ptR, ptS] at hS
    split at hS
    · rename_i p hp
      obtain ⟨hm, rfl⟩ := pt_find hp
      exact h1.2 p hm hne hwt x w w' hS hv
    · exact h1.1 x w w' hS hv
  · simp only [ptR, ptS] at hS hC ⊢
    split at hS
    · rename_i p hp
      obtain ⟨hm, rfl⟩ := pt_find hp
      exact hC.puts hS fun k hk => ⟨p, hm, hne, hwt, hk⟩
    · exact hC.later hS
  · simp only [ptR, ptS] at hS hE ⊢
    split at hS
    · rename_i p hp
      obtain ⟨hm, rfl⟩ := pt_find hp
      exact hE.puts hS fun k hk => ⟨p, hm, hk⟩
    · exact hE.later hS

theorem wp_region_put {id : Nat} {Q' : Exit → Act → World → Prop} {w0 : World} {l : List Oper} {a0 : Act} (st : List Pt) (hm : P.follows .mixedOrders = true) (hg : growB l.toArray = true)
    (h : ∃ Vs, wpReg P l.toArray (ptR l.toArray st w0) (fun a w => Q' .normal a w) l Vs [] a0 ∧ AllOk l.toArray st 0 Vs ∧ Vs.length = l.length) : (Code.region id l.toArray true).wp P Q' a0 w0 := by
  obtain ⟨Vs, h0, hS, hlen⟩ := h
  exact wp_region_reg l hm hg (ptR_ok (by simpa using hlen) hS) hlen (Kept.drew _ _) (fun _ _ => Kept.drew _ _) h0

/-! ### The walk, step by step -/
section
variable {Q : Act → World → Prop} {a : Act} {o : Oper} {rest : List Oper} {Vs : List VP} {env : List (Value × VP)} {st : List Pt} {w0 : World}
theorem wpReg_is {c : Value} (hw : Region.wanted o (yielded ops a.tmps) = true) (hs : st.find? (fun p => p.i == env.length) = none)
    (h1 : ∀ w, Kept (ptX ops st env.length) w0 w → (∀ e ∈ o.after, Region.binds .any e = true → ∀ (x : Value) (W : VP), env[e.on]? = some (x, W) → W x w) → grows P o a w (Is c))
    (h2 : ∀ K : Act → Prop, (∀ a', wpReg P ops (ptR ops st w0) Q rest Vs (env ++ [(c, Is c)]) a' → K a') → K (a.put o.dst c)) : wpReg P ops (ptR ops st w0) Q (o :: rest) (Is c :: Vs) env a := by
  refine ⟨?_, fun x ⟨w, _, hx⟩ => ?_⟩
  · rw [if_pos hw]
    intro w hC hf
    have h3 := h1 w hC hf
    have eS : (ptR ops st w0).S env.length = fun w w' => Below w.heap.size w w' := by funext w w'; simp only [ptR, ptS, hs]
    rw [eS]
    unfold grows at h3
    unfold steps
    revert h3
    cases (execOp a.eval o).run P w with
    | ok n w' =>
      cases n <;> simp only [growsUpon, stepsUpon] <;> first | exact fun h => h | exact fun h => h.2.mono fun e w'' ⟨v, he, hb, hv⟩ => ⟨v, he, grow_trans h.1 hb, hv⟩
    | halt x w' => simp only [growsUpon, stepsUpon]; exact fun h => h
  · obtain rfl : x = c := hx
    exact h2 _ fun _ h => h
theorem wpReg_rel {V : VP} (hw : Region.wanted o (yielded ops a.tmps) = true) (hs : st.find? (fun p => p.i == env.length) = none)
    (h1 : ∀ w, Kept (ptX ops st env.length) w0 w → (∀ e ∈ o.after, Region.binds .any e = true → ∀ (x : Value) (W : VP), env[e.on]? = some (x, W) → W x w) → grows P o a w V)
    (h2 : ∀ x, (∃ w, Kept (ptE st) w0 w ∧ V x w) → ∀ K : Act → Prop, (∀ a', wpReg P ops (ptR ops st w0) Q rest Vs (env ++ [(x, V)]) a' → K a') → K (a.put o.dst x)) : wpReg P ops (ptR ops st w0) Q (o :: rest) (V :: Vs) env a := by
  refine ⟨?_, fun x hx => h2 x hx _ fun _ h => h⟩
  rw [if_pos hw]
  intro w hC hf
  have h3 := h1 w hC hf
  have eS : (ptR ops st w0).S env.length = fun w w' => Below w.heap.size w w' := by funext w w'; simp only [ptR, ptS, hs]
  rw [eS]
  unfold grows at h3
  unfold steps
  revert h3
  cases (execOp a.eval o).run P w with
  | ok n w' =>
    cases n <;> simp only [growsUpon, stepsUpon] <;> first | exact fun h => h | exact fun h => h.2.mono fun e w'' ⟨v, he, hb, hv⟩ => ⟨v, he, grow_trans h.1 hb, hv⟩
  | halt x w' => simp only [growsUpon, stepsUpon]; exact fun h => h
theorem wpReg_skip (hw : Region.wanted o (yielded ops a.tmps) = false) (h2 : ∀ K : Act → Prop, (∀ a', wpReg P ops (ptR ops st w0) Q rest Vs (env ++ [(undef, Is undef)]) a' → K a') → K (a.put o.dst undef)) : wpReg P ops (ptR ops st w0) Q (o :: rest) (Is undef :: Vs) env a := by
  refine ⟨by rw [if_neg (by rw [hw]; simp)]; exact fun _ _ => rfl, fun x ⟨w, _, hx⟩ => ?_⟩
  obtain rfl : x = undef := hx
  exact h2 _ fun _ h => h
theorem wpReg_end (h : ∀ w, Kept (ptE st) w0 w → (∀ (j : Nat) (x : Value) (W : VP), env[j]? = some (x, W) → W x w) → Q a w) : wpReg P ops (ptR ops st w0) Q [] [] env a := h
/-- The block g holds what is R. -/
def HasV (g : Nat) (t : TypeId) (R : VP) : VP := fun v w => v = undef ∧ ∃ cs, Blk w g t cs ∧ R (.agg cs) w
theorem HasV.stays {g : Nat} {t : TypeId} {R : VP} (h : Stays R) : Stays (HasV g t R) := fun v w w' hb ⟨h1, cs, h2, h3⟩ => ⟨h1, cs, h2.later hb, h _ _ _ hb h3⟩
theorem HasV.pstays {g : Nat} {t : TypeId} {R : VP} {p : Pt} (hne : g ≠ p.g) (h : PStays p R) : PStays p (HasV g t R) := fun v w w' hp ⟨h1, cs, h2, h3⟩ => by
  refine ⟨h1, cs, ?_, h _ _ _ hp h3⟩
  obtain ⟨ds, ds', _, _, _, rfl⟩ := hp
  exact (heap_setRow w p.g ds' g hne).trans h2
theorem ptE1_not {i g n : Nat} {t : TypeId} {b : Nat} (h : b ≠ g) (k : Nat) : ¬ ptE [⟨i, g, t, 0, n⟩] b k := by
  rintro ⟨p, hp, e, _⟩
  simp only [List.mem_cons, List.not_mem_nil, or_false] at hp
  subst hp
  exact h e.symm
theorem ptE2_not {i g n i' g' n' : Nat} {t t' : TypeId} {b : Nat} (h : b ≠ g) (h' : b ≠ g') (k : Nat) : ¬ ptE [⟨i, g, t, 0, n⟩, ⟨i', g', t', 0, n'⟩] b k := by
  rintro ⟨p, hp, e, _⟩
  simp only [List.mem_cons, List.not_mem_nil, or_false] at hp
  rcases hp with rfl | rfl
  · exact h e.symm
  · exact h' e.symm
theorem ok_hasIs1 {ops : Array Oper} {i g n : Nat} {t u : TypeId} {j b : Nat} {c : Value} (h : j = i ∨ b ≠ g) : Stays (HasV b u (Is c)) ∧ ∀ p ∈ [(⟨i, g, t, 0, n⟩ : Pt)], p.i ≠ j → waits ops j p.i = false → PStays p (HasV b u (Is c)) :=
  ⟨HasV.stays (Stays.is c), fun p hp hj _ => HasV.pstays (by
    simp only [List.mem_cons, List.not_mem_nil, or_false] at hp
    subst hp
    rcases h with h | h
    · exact absurd h.symm hj
    · exact h) (fun _ _ _ _ h => h)⟩
theorem ok_hasIs2 {ops : Array Oper} {i g n i' g' n' : Nat} {t t' u : TypeId} {j b : Nat} {c : Value} (h : j = i ∨ b ≠ g) (h' : j = i' ∨ b ≠ g') : Stays (HasV b u (Is c)) ∧ ∀ p ∈ [(⟨i, g, t, 0, n⟩ : Pt), ⟨i', g', t', 0, n'⟩], p.i ≠ j → waits ops j p.i = false → PStays p (HasV b u (Is c)) :=
  ⟨HasV.stays (Stays.is c), fun p hp hj _ => HasV.pstays (by
    simp only [List.mem_cons, List.not_mem_nil, or_false] at hp
    rcases hp with rfl | rfl
    · rcases h with h | h
      · exact absurd h.symm hj
      · exact h
    · rcases h' with h | h
      · exact absurd h.symm hj
      · exact h) (fun _ _ _ _ h => h)⟩
theorem Is.pstays (c : Value) (p : Pt) : PStays p (Is c) := fun _ _ _ _ h => h
/-- A whole variable is stored. -/
theorem wpReg_store (R : VP) (cs : Array Value) {t : TypeId} (hw : Region.wanted o (yielded ops a.tmps) = true) (ty : TypeId) (x y : Operand) (ho : o.op = .store ty x y) (g : Nat) (hx : a.eval x = .pointer (some ⟨g, 0, none⟩)) (hy : a.eval y = .agg cs)
    (hi : (P.info? ty).map (·.size) = some cs.size) (h1 : cs.all (·.oneCell') = true) {old : Array Value} (hb : Blk w0 g t old) (hold : old.size = cs.size)
    (hs : st.find? (fun p => p.i == env.length) = some ⟨env.length, g, t, 0, cs.size⟩)
    (hv : ∀ w, Kept (ptE st) w0 w → (∀ e ∈ o.after, Region.binds .any e = true → ∀ (x : Value) (W : VP), env[e.on]? = some (x, W) → W x w) → R (.agg cs) w) (hps : ∀ p : Pt, p.t = t → PStays p R)
    (h2 : ∀ K : Act → Prop, (∀ a', wpReg P ops (ptR ops st w0) Q rest Vs (env ++ [(undef, HasV g t R)]) a' → K a') → K (a.put o.dst undef)) : wpReg P ops (ptR ops st w0) Q (o :: rest) (HasV g t R :: Vs) env a := by
  refine ⟨?_, fun x ⟨w, _, hx⟩ => ?_⟩
  · rw [if_pos hw]
    intro w hC hf
    obtain ⟨ds, h3, h4, _⟩ := hC.blk g t old hb
    have eS : (ptR ops st w0).S env.length = Puts ⟨env.length, g, t, 0, cs.size⟩ := by funext w w'; simp only [ptR, ptS, hs]
    rw [eS]
    have hrun : (execOp a.eval o).run P w = .ok .skip (w.setRow g cs) := by
      unfold execOp
      simp only [ho, hx, hy, Instr.storeAt, Instr.sureAddr, Sem.run_bind, Sem.run_pure, Result.andThen_ok, run_storeVar_row w g t ty ds cs h3 hi (h4.trans hold) h1]
    have hpt : Puts ⟨env.length, g, t, 0, cs.size⟩ w (w.setRow g cs) := ⟨ds, cs, h3, (h4.trans hold).symm, fun k hk => by
      have : cs.size ≤ k := by
        rcases Nat.lt_or_ge k cs.size with h5 | h5
        · exact absurd ⟨rfl, Nat.zero_le _, by simpa using h5⟩ hk
        · exact h5
      rw [Array.getElem?_eq_none this, Array.getElem?_eq_none (by omega)], rfl⟩
    unfold steps
    rw [hrun]
    exact ⟨hpt, rfl, cs, h3.setRow cs, hps _ rfl _ _ _ hpt (hv w (Kept.mono hC ptX_E) hf)⟩
  · obtain ⟨rfl, _⟩ := hx
    exact h2 _ fun _ h => h
/-- One cell is stored. -/
def HasC (g k : Nat) (u : Value) : VP := fun v w => v = undef ∧ w.cell? ⟨g, k, none⟩ = some u
theorem HasC.stays (g k : Nat) (u : Value) : Stays (HasC g k u) := fun v w w' hb h => ⟨h.1, cell_later hb h.2⟩
theorem HasC.pstays {g k : Nat} {u : Value} {p : Pt} (hne : ¬ p.hits g k) : PStays p (HasC g k u) := fun v w w' h q => by
  obtain ⟨ds, ds', h1, h2, h3, rfl⟩ := h
  refine ⟨q.1, ?_⟩
  by_cases hg : g = p.g
  · subst hg
    have := q.2
    rw [h1.cell] at this
    rw [(h1.setRow ds').cell, h3 k hne]
    exact this
  · rw [World.cell?_of_block (a := ⟨g, k, none⟩) (heap_setRow w p.g ds' g hg)]
    exact q.2
theorem okIs (ops : Array Oper) (st : List Pt) (j : Nat) (c : Value) : Stays (Is c) ∧ ∀ p ∈ st, p.i ≠ j → waits ops j p.i = false → PStays p (Is c) := ⟨Stays.is c, fun p _ _ _ => Is.pstays c p⟩
end
end
end Go.Proofs.YtojlldalhhibmaaGreatDoor

namespace Go.Proofs.YtojlldalhhibmaaGreatDoor
open Go Go.RowKit
set_option linter.unusedVariables false

/-- The blocks of these kinds are as they were (none: maps). -/
def SameK (ks : List (Option TypeId)) (w w' : World) : Prop := ∀ b t, t ∈ ks → kindAt w b = some t → w'.heap[b]? = w.heap[b]?
section
variable {ks : List (Option TypeId)} {w w1 w2 : World}
theorem SameK.refl (w : World) : SameK ks w w := fun _ _ _ _ => rfl
theorem kind_same {w w' : World} {b : Nat} {t : Option TypeId} (h : w'.heap[b]? = w.heap[b]?) (hk : kindAt w b = some t) : kindAt w' b = some t := by unfold kindAt at hk ⊢; rw [h]; exact hk
theorem SameK.trans (h : SameK ks w w1) (k : SameK ks w1 w2) : SameK ks w w2 := fun b t ht hk =>
  (k b t ht (kind_same (h b t ht hk) hk)).trans (h b t ht hk)
theorem SameK.below (h : Below w.heap.size w w1) : SameK ks w w1 := fun b t _ hk => h.block b (kind_lt hk)
theorem SameK.drew (w : World) : SameK ks w w.drew := fun _ _ _ _ => rfl
theorem SameK.not {b : Nat} {t t' : Option TypeId} (hk : kindAt w b = some t) (ht : t ∉ ks) (hk' : kindAt w b = some t') : t' ∉ ks := by
  rw [hk] at hk'
  injection hk' with hk'
  subst hk'
  exact ht
theorem SameK.kept {X : Nat → Nat → Prop} (h : Kept X w w1) (hX : ∀ b k, X b k → ∃ t, kindAt w b = some t ∧ t ∉ ks) : SameK ks w w1 := fun b t ht hk =>
  h.heap (kind_lt hk) fun k e => by
    obtain ⟨t', h1, h2⟩ := hX b k e
    exact SameK.not h1 h2 hk ht
theorem SameK.setCell {p : Addr} {t : TypeId} {cs : Array Value} (hb : Blk w p.block t cs) (ht : some t ∉ ks) (u : Value) : SameK ks w (w.setCell p u) := fun b t' ht' hk =>
  Below.heap_setCell w p u b fun e => by
    subst e
    exact SameK.not (kind_blk hb) ht hk ht'
theorem SameK.setRow {g : Nat} {t : TypeId} {cs : Array Value} (hb : Blk w g t cs) (ht : some t ∉ ks) (cs' : Array Value) : SameK ks w (w.setRow g cs') := fun b t' ht' hk =>
  heap_setRow w g cs' b fun e => by
    subst e
    exact SameK.not (kind_blk hb) ht hk ht'
theorem SameK.puts3 {g : Nat} {t : TypeId} {a b c : Value} (hb : Blk w g t #[a, b, c]) (ht : some t ∉ ks) (x y z : Value) : SameK ks w (((w.setCell ⟨g, 0, none⟩ x).setCell ⟨g, 1, none⟩ y).setCell ⟨g, 2, none⟩ z) :=
  ((SameK.setCell (p := ⟨g, 0, none⟩) hb ht x).trans (SameK.setCell (p := ⟨g, 1, none⟩) (hb.put 0 x) ht y)).trans (SameK.setCell (p := ⟨g, 2, none⟩) ((hb.put 0 x).put 1 y) ht z)
theorem SameK.puts5 {g : Nat} {t : TypeId} {cs : Array Value} (hb : Blk w g t cs) (ht : some t ∉ ks) (x y z u v : Value) : SameK ks w (((((w.setCell ⟨g, 0, none⟩ x).setCell ⟨g, 1, none⟩ y).setCell ⟨g, 2, none⟩ z).setCell ⟨g, 3, none⟩ u).setCell ⟨g, 4, none⟩ v) :=
  ((((SameK.setCell (p := ⟨g, 0, none⟩) hb ht x).trans (SameK.setCell (p := ⟨g, 1, none⟩) (hb.put 0 x) ht y)).trans (SameK.setCell (p := ⟨g, 2, none⟩) ((hb.put 0 x).put 1 y) ht z)).trans
    (SameK.setCell (p := ⟨g, 3, none⟩) (((hb.put 0 x).put 1 y).put 2 z) ht u)).trans (SameK.setCell (p := ⟨g, 4, none⟩) ((((hb.put 0 x).put 1 y).put 2 z).put 3 u) ht v)
theorem SameK.less {ks' : List (Option TypeId)} (h : SameK ks w w1) (hs : ∀ t ∈ ks', t ∈ ks) : SameK ks' w w1 := fun b t ht hk => h b t (hs t ht) hk
theorem KSl.same {e : TypeId} {size n : Nat} {v : Value} {xs : List Value} (h : KSl e size w v n xs) (hs : SameK ks w w1) (he : some e ∈ ks) : KSl e size w1 v n xs := h.keep fun b hb => hs b _ he hb
theorem Puts.same {p : Pt} (h : Puts p w w1) (ht : some p.t ∉ ks) : SameK ks w w1 := by
  obtain ⟨cs, cs', h1, _, _, rfl⟩ := h
  exact SameK.setRow h1 ht cs'
theorem Blk.sameK {g : Nat} {t : TypeId} {cs : Array Value} (h : Blk w g t cs) (hs : SameK ks w w1) (ht : some t ∈ ks) : Blk w1 g t cs := (hs g _ ht (kind_blk h)).trans h
theorem MpV.sameK {P : Program} {k : TypeId} {b n : Nat} {f : Int → Option Value} (h : MpV P k w b f n) (hk : kindAt w b = some none) (hs : SameK ks w w1) (ht : none ∈ ks) : MpV P k w1 b f n := h.at (hs b _ ht hk)
theorem Ow.same {e : TypeId} {B : Nat} {v : Value} {xs : List Value} (h : Ow e w B v xs) (hs : SameK ks w w1) (ht : some e ∈ ks) : Ow e w1 B v xs := by
  obtain ⟨h1, h2⟩ := h
  refine ⟨h1, ?_⟩
  have hk := fun b => kind_own (b := b) (show w.ownsRow B e 1 v xs.length xs from ⟨h1, h2⟩)
  rcases h2 with h2 | ⟨g, cap, cur, hv, hg, hh, r⟩
  · exact .inl h2
  · exact .inr ⟨g, cap, cur, hv, hg, (hs g _ ht (hk g (by rw [hv]; rfl))).trans hh, r⟩
end
end Go.Proofs.YtojlldalhhibmaaGreatDoor

namespace Go.Proofs.YtojlldalhhibmaaGreatDoor
open Go Go.RowKit
set_option linter.unusedVariables false

/-- Block b is one of bytes, from B on. -/
def UbS (w : World) (B b : Nat) : Prop := B ≤ b ∧ ∃ cs fz, w.heap[b]? = some (.cells cs 5 fz)
/-- The slice value v reads as l, in blocks of bytes from B on. -/
def Ub (w : World) (B : Nat) (v : Value) (l : List UInt8) : Prop := Bs (UbS w B) w v l
theorem Ub.of_own {w : World} {B : Nat} {v : Value} {l : List UInt8} (h : Ob 5 w B v l) : Ub w B v l := by
  have hs := h.bs
  rcases h.2 with ⟨rfl, hn⟩ | ⟨g, cap, cur, rfl, hB, hh, _⟩
  · obtain ⟨h1, A, c, h2, h3, h4, h5, h6⟩ := hs
    exact ⟨h1, A, c, h2, h3, h4, h5, fun hl => by omega⟩
  · obtain ⟨h1, A, c, h2, h3, h4, h5, h6⟩ := hs
    refine ⟨h1, A, c, h2, h3, h4, h5, fun hl => ?_⟩
    obtain ⟨b, o, hA, _, hc⟩ := h6 hl
    injection h2 with hA2
    rw [hA] at hA2
    injection hA2 with hA2
    injection hA2 with hb
    subst hb
    exact ⟨g, o, hA, ⟨hB, _, _, hh⟩, hc⟩
theorem Ub.bs {w : World} {B : Nat} {v : Value} {l : List UInt8} (h : Ub w B v l) : Bs (fun _ => True) w v l := Sl.more h fun _ _ => trivial
theorem Ub.len {w : World} {B : Nat} {A : Option Addr} {k c : Nat} {l : List UInt8} (h : Ub w B (.slice A k c) l) : k = l.length := by
  obtain ⟨_, A', c', hv, _⟩ := h
  injection hv
theorem Ub.keep {w w' : World} {B : Nat} {v : Value} {l : List UInt8} (h : Ub w B v l) (hk : ∀ b, UbS w B b → w'.heap[b]? = w.heap[b]?) : Ub w' B v l := by
  obtain ⟨h1, A, c, h2, h3, h4, h5, h6⟩ := h
  refine ⟨h1, A, c, h2, h3, h4, h5, fun hl => ?_⟩
  obtain ⟨b, o, hA, hs, hc⟩ := h6 hl
  have hb := hk b hs
  obtain ⟨hB, cs, fz, hh⟩ := hs
  refine ⟨b, o, hA, ⟨hB, cs, fz, hb.trans hh⟩, fun j u hu => ?_⟩
  rw [World.cell?_of_block (a := ⟨b, o + j, none⟩) hb]
  exact hc j u hu
theorem Ub.later {w w' : World} {B : Nat} {v : Value} {l : List UInt8} (h : Ub w B v l) (hb : Below w.heap.size w w') : Ub w' B v l :=
  h.keep fun b ⟨_, cs, fz, hh⟩ => hb.block b (lt_of_block hh)
theorem Ub.lower {w : World} {B B' : Nat} {v : Value} {l : List UInt8} (h : Ub w B v l) (hB : B' ≤ B) : Ub w B' v l := Sl.more h fun b ⟨h1, h2⟩ => ⟨Nat.le_trans hB h1, h2⟩
/-- A block of another type is written, and new ones made. -/
theorem Ub.beside {w w' : World} {B : Nat} {v : Value} {l : List UInt8} (h : Ub w B v l) {g : Nat} {t : TypeId} {cs : Array Value} (hb : Blk w g t cs) (hne : 5 ≠ t) (hg : w.grownBy w' (some g)) : Ub w' B v l :=
  h.keep fun b ⟨_, cs', fz, hh⟩ => hg.block b (lt_of_block hh) (fun e => by
    injection e with e
    subst e
    unfold Blk at hb
    rw [hh] at hb
    injection hb with hb
    injection hb with _ hb
    exact hne hb)
end Go.Proofs.YtojlldalhhibmaaGreatDoor

namespace Go.Proofs.YtojlldalhhibmaaGreatDoor
open Go Go.RowKit
set_option linter.unusedVariables false

/-- A slice that reads as the bytes l. -/
def VBs (l : List UInt8) : VP := fun v w => Bs (fun _ => True) w v l
theorem Bs.later {S : Nat → Prop} {w w' : World} {v : Value} {l : List UInt8} (h : Bs S w v l) (hb : Below w.heap.size w w') : Bs S w' v l := by
  obtain ⟨A, c, rfl, h3, h4, h5, h6⟩ := h.at
  refine Bs.mk_ h3 h4 h5 fun hn => ?_
  obtain ⟨b, o, hA, hS, hc⟩ := h6 hn
  exact ⟨b, o, hA, hS, fun j hj => cell_later hb (hc j hj)⟩
theorem Stays.bs (l : List UInt8) : Stays (VBs l) := fun _ _ _ hb h => Bs.later h hb
theorem Bs.any {S : Nat → Prop} {w : World} {v : Value} {l : List UInt8} (h : Bs S w v l) : Bs (fun _ => True) w v l := Sl.more h fun _ _ => trivial

end Go.Proofs.YtojlldalhhibmaaGreatDoor

namespace Go.Proofs.YtojlldalhhibmaaGreatDoor
open Go Go.RowKit
set_option linter.unusedVariables false

theorem intTy : Tryz.prog.underlying 3 = some (.int .i64) := Tryz.underlying3
theorem secTy : Tryz.prog.underlying 66 = some (.map 3 73) := Tryz.underlying66
theorem nilBytes (w : World) : (zeroValue 73).run Tryz.prog w = .ok (.slice none 0 0) w := by kernel_rfl

theorem kind_map {P : Program} {k : TypeId} {w : World} {b n : Nat} {f : Int → Option Value} (h : MpV P k w b f n) : kindAt w b = some none := by
  obtain ⟨es, c, hb⟩ := h.isMap
  unfold kindAt
  rw [hb]
theorem kind_ub {w : World} {B b : Nat} (h : UbS w B b) : kindAt w b = some (some 5) := by
  obtain ⟨_, cs, fz, hh⟩ := h
  unfold kindAt
  rw [hh]

/-- Bytes stay where only a block of another kind turned. -/
theorem Ub.other {w w' : World} {B : Nat} {v : Value} {l : List UInt8} (h : Ub w B v l) {z : Nat} (hz : kindAt w z ≠ some (some 5)) (hg : w.grownBy w' (some z)) : Ub w' B v l :=
  h.keep fun b hb => hg.block b (by obtain ⟨_, cs, fz, hh⟩ := hb; exact lt_of_block hh) (fun e => by
    injection e with e
    subst e
    exact hz (kind_ub hb))
theorem MpV.other {P : Program} {k : TypeId} {w w' : World} {b n : Nat} {f : Int → Option Value} (h : MpV P k w b f n) {z : Nat} (hz : b ≠ z) (hg : w.grownBy w' (some z)) : MpV P k w' b f n :=
  h.at (hg.block b h.lt (fun e => hz (by injection e)))
theorem Ow.other {e : TypeId} {w w' : World} {B : Nat} {v : Value} {xs : List Value} (h : Ow e w B v xs) {z : Nat} (hz : v.ownBlock ≠ some z) (hg : w.grownBy w' (some z)) : Ow e w' B v xs := by
  obtain ⟨h1, h2⟩ := h
  refine ⟨h1, ?_⟩
  rcases h2 with h2 | ⟨g, cap, cur, hv, hB, hh, r⟩
  · exact .inl h2
  · refine .inr ⟨g, cap, cur, hv, hB, ?_, r⟩
    exact (hg.block g (lt_of_block hh) (fun e => hz (by rw [hv]; exact e))).trans hh

/-! ### Sectors in a map -/
def SecV (w : World) (v : Option Value) (l : Option (List UInt8)) : Prop := match v, l with
  | none, none => True
  | some v, some l => Ub w 0 v l
  | _, _ => False
def Secs (w : World) (b : Nat) (f : SF) (n : Nat) : Prop := ∃ m, MpV Tryz.prog 3 w b m n ∧ ∀ a, InI a → SecV w (m a) (f a)
theorem SecV.keep {w w' : World} {v : Option Value} {l : Option (List UInt8)} (h : SecV w v l) (hk : ∀ v l, Ub w 0 v l → Ub w' 0 v l) : SecV w' v l := by
  unfold SecV at h ⊢
  cases v <;> cases l <;> simp_all
theorem SecV.some_iff {w : World} {v : Option Value} {l : Option (List UInt8)} (h : SecV w v l) : v.isSome = l.isSome := by
  unfold SecV at h
  cases v <;> cases l <;> simp_all
theorem Secs.later {w w' : World} {b n : Nat} {f : SF} (h : Secs w b f n) (hb : Below w.heap.size w w') : Secs w' b f n := by
  obtain ⟨m, h1, h2⟩ := h
  exact ⟨m, h1.later hb, fun a ha => (h2 a ha).keep fun _ _ h => h.later hb⟩
theorem Secs.other {w w' : World} {b n : Nat} {f : SF} (h : Secs w b f n) {z : Nat} (hz : b ≠ z) (hz2 : kindAt w z ≠ some (some 5)) (hg : w.grownBy w' (some z)) : Secs w' b f n := by
  obtain ⟨m, h1, h2⟩ := h
  exact ⟨m, h1.other hz hg, fun a ha => (h2 a ha).keep fun _ _ h => h.other hz2 hg⟩
theorem Secs.kind {w : World} {b n : Nat} {f : SF} (h : Secs w b f n) : kindAt w b = some none := by
  obtain ⟨m, h1, _⟩ := h
  exact kind_map h1
theorem Secs.lt {w : World} {b n : Nat} {f : SF} (h : Secs w b f n) : b < w.heap.size := by
  obtain ⟨m, h1, _⟩ := h
  exact h1.lt
/-- A new map of sectors. -/
theorem Secs.made (w : World) : Secs (w.alloc (.map #[] 0)) w.heap.size (fun _ => none) 0 := ⟨_, MpV.made _ _ w, fun _ _ => trivial⟩
end Go.Proofs.YtojlldalhhibmaaGreatDoor
