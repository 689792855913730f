/- What the proof of PagePuts needs, part 6. -/
import Derived.Test.YtlidbgidbpaenaaDoorPagePutsJ1
import Derived.Orders
import Derived.Deep.Quiet

namespace Go.Proofs.YtlidbgidbpaenaaDoor
open Go Go.RowKit
set_option linter.unusedVariables false
set_option linter.unusedSimpArgs false

/-- What a value is, in a world. -/
abbrev VP := Value → World → Prop
/-- The one value. -/
def Is (c : Value) : VP := fun v _ => v = c
def Stays (V : VP) : Prop := ∀ v w w', Below w.heap.size w w' → V v w → V v w'
theorem Stays.is (c : Value) : Stays (Is c) := fun _ _ _ _ h => h

section
variable {P : Program} {ops : Array Oper}

def growsUpon (P : Program) (w : World) (V : VP) : Result Next → Prop
  | .ok (.value u) w' => Below w.heap.size w w' ∧ V u w'
  | .ok .skip w' => Below w.heap.size w w' ∧ V undef w'
  | .ok (.enter f args) w' => Below w.heap.size w w' ∧ Calls P f args w' (fun e w'' => ∃ v, e = .returned v ∧ Below w'.heap.size w' w'' ∧ V v w'')
  | _ => False
/-- Run in w, the operation yields a value of V; memory has only grown. -/
def grows (P : Program) (o : Oper) (a : Act) (w : World) (V : VP) : Prop := growsUpon P w V ((execOp a.eval o).run P w)

theorem grow_trans {a b c : World} (h : Below a.heap.size a b) (k : Below b.heap.size b c) : Below a.heap.size a c := h.trans (k.mono h.size)

theorem wp_of_grows {o : Oper} {a : Act} {w : World} {V : VP} {K : Act → World → Prop} {Q : Exit → Act → World → Prop} (h : grows P o a w V)
    (hK : ∀ v w', Below w.heap.size w w' → V v w' → K (a.put o.dst v) w') : o.wp P a w K Q := by
  unfold grows at h
  unfold Oper.wp
  generalize (execOp a.eval o).run P w = r at *
  cases r with
  | ok n w' =>
    cases n <;> simp only [growsUpon] at h <;> simp only [Oper.upon]
    case value u => exact hK _ _ h.1 h.2
    case skip => exact hK _ _ h.1 h.2
    case enter f args =>
      exact h.2.mono fun e w'' ⟨v, he, hb, hv⟩ => by subst he; exact hK _ _ (grow_trans h.1 hb) hv
  | halt x w' => simp only [growsUpon] at h

theorem exists_of_grows {o : Oper} {a : Act} {w : World} {V : VP} (h : grows P o a w V) : ∃ v w', Below w.heap.size w w' ∧ V v w' := by
  unfold grows at h
  generalize (execOp a.eval o).run P w = r at *
  cases r with
  | ok n w' =>
    cases n <;> simp only [growsUpon] at h
    case value u => exact ⟨u, w', h⟩
    case skip => exact ⟨_, w', h⟩
    case enter f args =>
      obtain ⟨e, w'', fr, ⟨v, _, hb, hv⟩, _⟩ := h.2 []
      exact ⟨v, w'', grow_trans h.1 hb, hv⟩
  | halt x w' => simp only [growsUpon] at h

/-- The walk in the order of the text. 'env': what the operations ahead have yielded. -/
def wpGrow (P : Program) (ops : Array Oper) (C : World → Prop) (Q : Act → World → Prop) : List Oper → List VP → List (Value × VP) → Act → Prop
  | o :: rest, V :: Vs, env, a =>
    (if Region.wanted o (yielded ops a.tmps) then ∀ w, C w → (∀ e ∈ o.after, Region.binds .any e = true → ∀ (x : Value) (W : VP), env[e.on]? = some (x, W) → W x w) → grows P o a w V else ∀ w, C w → V undef w) ∧
    ∀ x, (∃ w, C w ∧ V x w) → wpGrow P ops C Q rest Vs (env ++ [(x, V)]) (a.put o.dst x)
  | [], [], env, a => ∀ w, C w → (∀ (j : Nat) (x : Value) (W : VP), env[j]? = some (x, W) → W x w) → Q a w
  | _, _, _, _ => False

def dstOf (ops : Array Oper) (j : Nat) : Option Tmp := (ops[j]?).bind (·.dst)
/-- Operation i waits for j. -/
def waits (ops : Array Oper) (i j : Nat) : Bool := ((ops[i]?).map fun (o : Oper) => o.after.any fun e => e.on == j && Region.binds .any e).getD false

/-- What the theorem asks of the region's text: each waits for earlier ones alone; no slot is written twice; what an operation looks at is written by one for which it waits, or by one that waits for it, or by none other. -/
def growB (ops : Array Oper) : Bool :=
  (List.range ops.size).all fun i =>
    ((List.range ops.size).all fun j => (!waits ops i j || decide (j < i)) && (decide (i = j) || (dstOf ops i).isNone || dstOf ops i != dstOf ops j) &&
      (match ops[i]?, dstOf ops j with
       | some o, some s => !(o.looksAt ops).contains s || waits ops i j || waits ops j i || decide (i = j)
       | _, _ => true))
      && ((ops[i]?).map fun (o : Oper) => match o.op with | .select _ _ => false | _ => o.after.all fun e => !Region.binds .any e || decide (e.on < i)).getD true

theorem growB_spec (h : growB ops = true) : (∀ (i : Nat) (o : Oper), ops[i]? = some o → ∀ e ∈ o.after, Region.binds .any e = true → e.on < i) ∧
    (∀ (i j : Nat) (s : Tmp), i < ops.size → j < ops.size → dstOf ops i = some s → dstOf ops j = some s → i = j) ∧
    (∀ (i j : Nat) (o : Oper) (s : Tmp), ops[i]? = some o → j < ops.size → dstOf ops j = some s → s ∈ o.looksAt ops → waits ops i j = true ∨ waits ops j i = true ∨ i = j) ∧
    (∀ (i : Nat) (o : Oper) cs b, ops[i]? = some o → o.op ≠ .select cs b) := by
  unfold growB at h
  rw [List.all_eq_true] at h
  have hall : ∀ i, i < ops.size → _ := fun i hi => (Bool.and_eq_true _ _).mp (h i (List.mem_range.2 hi))
  have hlt : ∀ {i o}, ops[i]? = some o → i < ops.size := fun ho => (Array.getElem?_eq_some_iff.1 ho).1
  refine ⟨fun i o ho e he hb => ?_, fun i j s hi hj h1 h2 => ?_, fun i j o s ho hj hd hs => ?_, fun i o cs b ho hop => ?_⟩
  · have h2 := (hall i (hlt ho)).2
    rw [ho] at h2
    simp only [Option.map_some, Option.getD_some] at h2
    split at h2
    · cases h2
    · rw [Array.all_eq_true_iff_forall_mem] at h2
      have := h2 e he
      simpa [hb] using this
  · have h3 := (hall i hi).1
    rw [List.all_eq_true] at h3
    have h4 := h3 j (List.mem_range.2 hj)
    simp only [Bool.and_eq_true] at h4
    have h5 := h4.1.2
    rw [h1, h2] at h5
    simpa using h5
  · have h3 := (hall i (hlt ho)).1
    rw [List.all_eq_true] at h3
    have h4 := h3 j (List.mem_range.2 hj)
    simp only [Bool.and_eq_true] at h4
    have h5 := h4.2
    rw [ho, hd] at h5
    simp only [Bool.or_eq_true, Bool.not_eq_true', decide_eq_true_eq] at h5
    rcases h5 with ((h5 | h5) | h5) | h5
    · simp only [List.contains_eq_mem, decide_eq_false_iff_not] at h5
      exact absurd hs h5
    · exact .inl h5
    · exact .inr (.inl h5)
    · exact .inr (.inr h5)
  · have h2 := (hall i (hlt ho)).2
    rw [ho] at h2
    simp only [Option.map_some, Option.getD_some, hop] at h2
    cases h2

theorem waits_iff {i j : Nat} {o : Oper} (ho : ops[i]? = some o) : waits ops i j = true ↔ ∃ e ∈ o.after, e.on = j ∧ Region.binds .any e = true := by
  unfold waits
  rw [ho]
  simp only [Option.map_some, Option.getD_some, Array.any_eq_true, Bool.and_eq_true, beq_iff_eq]
  constructor
  · rintro ⟨k, hk, h⟩
    exact ⟨_, Array.getElem_mem hk, h⟩
  · rintro ⟨e, he, h⟩
    obtain ⟨k, hk, rfl⟩ := Array.mem_iff_getElem.1 he
    exact ⟨k, hk, h⟩

/-- Slot by slot: where the operations that 'f' tells have been laid. -/
structure Laid (ops : Array Oper) (a0 : Act) (f : Nat → Option Value) (a : Act) : Prop where
  defers : a.defers = a0.defers
  size : a.tmps.size = a0.tmps.size
  put : ∀ j s x, j < ops.size → dstOf ops j = some s → f j = some x → a.tmps[s]? = (a0.tmps[s]?).map fun _ => x
  off : ∀ s, (∀ j, j < ops.size → dstOf ops j = some s → f j = none) → a.tmps[s]? = a0.tmps[s]?

theorem Laid.start (a0 : Act) : Laid ops a0 (fun _ => none) a0 := ⟨rfl, rfl, (fun _ _ _ _ _ h => by cases h), fun _ _ => rfl⟩

theorem Laid.next {a0 a : Act} {f : Nat → Option Value} (hg : growB ops = true) (h : Laid ops a0 f a) {k : Nat} {o : Oper} (ho : ops[k]? = some o) (hf : f k = none) (x : Value) :
    Laid ops a0 (fun j => if j = k then some x else f j) (a.put o.dst x) := by
  obtain ⟨_, hdist, _, _⟩ := growB_spec hg
  have hk : k < ops.size := (Array.getElem?_eq_some_iff.1 ho).1
  have hdk : dstOf ops k = o.dst := by simp [dstOf, ho]
  cases hd : o.dst with
  | none =>
    refine ⟨h.defers, h.size, fun j s y hj hs hy => ?_, fun s hs => ?_⟩
    · have hne : j ≠ k := by rintro rfl; rw [hdk, hd] at hs; cases hs
      simp only [hne, if_false] at hy
      exact h.put j s y hj hs hy
    · refine h.off s fun j hj hjs => ?_
      have hne : j ≠ k := by rintro rfl; rw [hdk, hd] at hjs; cases hjs
      have := hs j hj hjs
      simpa only [hne, if_false] using this
  | some d =>
    refine ⟨h.defers, by simp [Act.put, h.size], fun j s y hj hs hy => ?_, fun s hs => ?_⟩
    · by_cases hjk : j = k
      · subst hjk
        rw [hdk, hd] at hs
        obtain rfl : d = s := by simpa using hs
        simp only [if_true] at hy
        obtain rfl : x = y := by simpa using hy
        show (a.tmps.setIfInBounds d x)[d]? = _
        have e := h.off d (fun j' hj' hs' => by
          have := hdist j' j d hj' hj hs' (by rw [hdk, hd])
          subst this
          exact hf)
        rcases Nat.lt_or_ge d a.tmps.size with hlt | hge
        · rw [Array.getElem?_setIfInBounds_self_of_lt hlt, ← e, Array.getElem?_eq_getElem hlt]; rfl
        · rw [← e, Array.getElem?_eq_none (by simpa using hge), Array.getElem?_eq_none hge]; rfl
      · simp only [hjk, if_false] at hy
        have hne : d ≠ s := by
          rintro rfl
          exact hjk (hdist j k d hj hk hs (by rw [hdk, hd]))
        show (a.tmps.setIfInBounds d x)[s]? = _
        rw [Array.getElem?_setIfInBounds_ne hne]
        exact h.put j s y hj hs hy
    · have hne : d ≠ s := by
        rintro rfl
        have := hs k hk (by rw [hdk, hd])
        simp at this
      show (a.tmps.setIfInBounds d x)[s]? = _
      rw [Array.getElem?_setIfInBounds_ne hne]
      refine h.off s fun j hj hjs => ?_
      have hjk : j ≠ k := by
        rintro rfl
        rw [hdk, hd] at hjs
        exact hne (by simpa using hjs)
      have := hs j hj hjs
      simpa only [hjk, if_false] using this

/-- Frames that agree where an operation looks are one to it. -/
theorem exec_agree {o : Oper} (hsel : ∀ cs b, o.op ≠ .select cs b) {a a' : Act} (h : ∀ t ∈ o.looksAt ops, a.tmps[t]? = a'.tmps[t]?) :
    execOp a.eval o = execOp a'.eval o ∧ Region.wanted o (yielded ops a.tmps) = Region.wanted o (yielded ops a'.tmps) := by
  constructor
  · refine execOp_congr o hsel fun x hx => ?_
    cases x with
    | tmp t =>
      have := h t (List.mem_append_left _ (List.mem_filterMap.2 ⟨.tmp t, by simpa using hx, rfl⟩))
      simp only [Act.eval, Array.getD_eq_getD_getElem?, this]
    | _ => rfl
  · unfold Region.wanted
    cases hg : o.guard with
    | none => rfl
    | some gw =>
      obtain ⟨g, want⟩ := gw
      have hy : yielded ops a.tmps g = yielded ops a'.tmps g := by
        unfold yielded
        cases ht : (ops[g]?).bind (·.dst) with
        | none => rfl
        | some t =>
          have := h t (by simp [Oper.looksAt, hg, ht])
          simp [this]
      simp only [hy]

theorem Laid.congr {a0 a : Act} {f g : Nat → Option Value} (h : Laid ops a0 f a) (hfg : ∀ j, j < ops.size → f j = g j) : Laid ops a0 g a :=
  ⟨h.defers, h.size, fun j s x hj hs hx => h.put j s x hj hs (by rw [hfg j hj]; exact hx), fun s hs => h.off s fun j hj hjs => by rw [hfg j hj]; exact hs j hj hjs⟩

theorem Laid.same {a0 a a' : Act} {f : Nat → Option Value} (h : Laid ops a0 f a) (h' : Laid ops a0 f a') : a = a' := by
  have ht : a.tmps = a'.tmps := by
    apply Array.ext_getElem?
    intro s
    by_cases hs : ∃ j x, j < ops.size ∧ dstOf ops j = some s ∧ f j = some x
    · obtain ⟨j, x, hj, hd, hf⟩ := hs
      rw [h.put j s x hj hd hf, h'.put j s x hj hd hf]
    · have hoff : ∀ j, j < ops.size → dstOf ops j = some s → f j = none := fun j hj hd => by
        cases hf : f j with
        | none => rfl
        | some x => exact absurd ⟨j, x, hj, hd, hf⟩ hs
      rw [h.off s hoff, h'.off s hoff]
  have hd : a.defers = a'.defers := h.defers.trans h'.defers.symm
  cases a
  cases a'
  simp only at ht hd
  subst ht hd
  rfl

/-- The frame behind the first k operations, in the order of the text, y being what they yielded. -/
def lexA (ops : Array Oper) (a0 : Act) (y : Nat → Value) : Nat → Act
  | 0 => a0
  | k + 1 => (lexA ops a0 y k).put (dstOf ops k) (y k)

theorem lexA_laid (hg : growB ops = true) (a0 : Act) (y : Nat → Value) : ∀ k, k ≤ ops.size → Laid ops a0 (fun j => if j < k then some (y j) else none) (lexA ops a0 y k)
  | 0, _ => (Laid.start a0).congr fun j _ => by simp
  | k + 1, hk => by
    have ho : ops[k]? = some ops[k] := Array.getElem?_eq_getElem (by omega)
    have h := (lexA_laid hg a0 y k (by omega)).next hg ho (by simp) (y k)
    have e : dstOf ops k = ops[k].dst := by simp [dstOf, ho]
    rw [lexA, e]
    refine h.congr fun j _ => ?_
    by_cases hj : j = k
    · subst hj; simp
    · by_cases hj2 : j < k
      · simp [hj, hj2, Nat.lt_succ_of_lt hj2]
      · have : ¬ j < k + 1 := by omega
        simp [hj, hj2, this]

theorem lexA_eq {a0 : Act} {y z : Nat → Value} : ∀ k, (∀ j, j < k → y j = z j) → lexA ops a0 y k = lexA ops a0 z k
  | 0, _ => rfl
  | k + 1, h => by rw [lexA, lexA, lexA_eq k fun j hj => h j (by omega), h k (by omega)]

def vAt (Vs : List VP) (j : Nat) : VP := Vs.getD j fun _ _ => True
def envAt (Vs : List VP) (y : Nat → Value) (k : Nat) : List (Value × VP) := (List.range k).map fun j => (y j, vAt Vs j)
theorem envAt_get {Vs : List VP} {y : Nat → Value} {k j : Nat} {x : Value} {W : VP} (h : (envAt Vs y k)[j]? = some (x, W)) : j < k ∧ x = y j ∧ W = vAt Vs j := by
  unfold envAt at h
  rw [List.getElem?_map] at h
  rcases Nat.lt_or_ge j k with hj | hj
  · rw [List.getElem?_range hj] at h
    simp only [Option.map_some, Option.some.injEq, Prod.mk.injEq] at h
    exact ⟨hj, h.1.symm, h.2.symm⟩
  · rw [List.getElem?_eq_none (by simpa using hj)] at h
    cases h

variable {C : World → Prop} {Q : Act → World → Prop} {Vs : List VP} {a0 : Act}

theorem wpGrow_at (hlen : Vs.length = ops.size) (h0 : wpGrow P ops C Q ops.toList Vs [] a0) (y : Nat → Value) : ∀ k, k ≤ ops.size → (∀ j, j < k → ∃ w, C w ∧ vAt Vs j (y j) w) →
    wpGrow P ops C Q (ops.toList.drop k) (Vs.drop k) (envAt Vs y k) (lexA ops a0 y k)
  | 0, _, _ => by simpa [envAt, lexA] using h0
  | k + 1, hk, hy => by
    have ih := wpGrow_at hlen h0 y k (by omega) fun j hj => hy j (by omega)
    have hk1 : k < ops.toList.length := by rw [Array.length_toList]; omega
    have hk2 : k < Vs.length := by omega
    rw [List.drop_eq_getElem_cons (l := ops.toList) hk1, List.drop_eq_getElem_cons (l := Vs) hk2] at ih
    have h2 := ih.2 (y k) (by
      obtain ⟨w, hw, hv⟩ := hy k (by omega)
      refine ⟨w, hw, ?_⟩
      have e : vAt Vs k = Vs[k]'(by omega) := by simp [vAt, List.getD, List.getElem?_eq_getElem (show k < Vs.length by omega)]
      rw [e] at hv
      exact hv)
    have e1 : envAt Vs y (k + 1) = envAt Vs y k ++ [(y k, Vs[k]'(by omega))] := by
      simp [envAt, List.range_succ, vAt, List.getD, List.getElem?_eq_getElem (show k < Vs.length by omega)]
    have e2 : lexA ops a0 y (k + 1) = (lexA ops a0 y k).put (ops.toList[k]'(by rw [Array.length_toList]; omega)).dst (y k) := by
      rw [lexA]
      congr 1
      simp [dstOf, Array.getElem?_eq_getElem (show k < ops.size by omega)]
    rw [e1, e2]
    exact h2

theorem getD_of {l : Array Bool} {j : Nat} (h : l.getD j true = false) : l.getD j false = false := by
  rcases Nat.lt_or_ge j l.size with hj | hj
  · simpa [Array.getD, hj] using h
  · simp [Array.getD, hj, Nat.not_lt.2 hj]

/-- What has not come up yet could come up in the order of the text. -/
theorem exists_prefix (hg : growB ops = true) (hS : ∀ V ∈ Vs, Stays V) (hC : ∀ w w', C w → Below w.heap.size w w' → C w') (hlen : Vs.length = ops.size)
    (h0 : wpGrow P ops C Q ops.toList Vs [] a0) {w : World} (hw : C w) {L : Nat → Bool} {x : Nat → Value} (hx : ∀ j, j < ops.size → L j = true → vAt Vs j (x j) w) :
    ∀ k, k ≤ ops.size → ∃ (y : Nat → Value) (w' : World), Below w.heap.size w w' ∧ (∀ j, L j = true → y j = x j) ∧ ∀ j, j < k → vAt Vs j (y j) w'
  | 0, _ => ⟨x, w, Below.refl _ _, fun _ _ => rfl, fun j hj => by omega⟩
  | k + 1, hk => by
    obtain ⟨y, w', hb, hyx, hy⟩ := exists_prefix hg hS hC hlen h0 hw hx k (by omega)
    have hst : ∀ j, j < ops.size → Stays (vAt Vs j) := fun j hj => by
      have e : vAt Vs j = Vs[j]'(by omega) := by simp [vAt, List.getD, List.getElem?_eq_getElem (show j < Vs.length by omega)]
      rw [e]
      exact hS _ (List.getElem_mem _)
    have hcw' := hC w w' hw hb
    by_cases hL : L k = true
    · refine ⟨y, w', hb, hyx, fun j hj => ?_⟩
      by_cases hjk : j = k
      · subst hjk
        rw [hyx j hL]
        exact hst j (by omega) _ _ _ hb (hx j (by omega) hL)
      · exact hy j (by omega)
    · have hat := wpGrow_at hlen h0 y k (by omega) fun j hj => ⟨w', hcw', hy j hj⟩
      have hk1 : k < ops.toList.length := by rw [Array.length_toList]; omega
      have hk2 : k < Vs.length := by omega
      rw [List.drop_eq_getElem_cons (l := ops.toList) hk1, List.drop_eq_getElem_cons (l := Vs) hk2] at hat
      have e : vAt Vs k = Vs[k]'(by omega) := by simp [vAt, List.getD, List.getElem?_eq_getElem (show k < Vs.length by omega)]
      have hex : ∃ v w'', Below w'.heap.size w' w'' ∧ vAt Vs k v w'' := by
        have h1 := hat.1
        split at h1
        · obtain ⟨v, w'', hbb, hv⟩ := exists_of_grows (h1 w' hcw' fun e he hbd x W hxW => by
            obtain ⟨hlt, rfl, rfl⟩ := envAt_get hxW
            exact hy _ hlt)
          exact ⟨v, w'', hbb, by rw [e]; exact hv⟩
        · exact ⟨undef, w', Below.refl _ _, by rw [e]; exact h1 w' hcw'⟩
      obtain ⟨v, w'', hbb, hv⟩ := hex
      refine ⟨fun j => if j = k then v else y j, w'', grow_trans hb hbb, fun j hj => ?_, fun j hj => ?_⟩
      · have hne : j ≠ k := by rintro rfl; exact hL hj
        simp only [hne, if_false]
        exact hyx j hj
      · by_cases hjk : j = k
        · subst hjk
          simpa using hv
        · simp only [hjk, if_false]
          exact hst j (by omega) _ _ _ hbb (hy j (by omega))

theorem len_filter_lt {α : Type} {p q : α → Bool} : ∀ (l : List α), (∀ x ∈ l, q x = true → p x = true) → ∀ i ∈ l, p i = true → q i = false → (l.filter q).length < (l.filter p).length
  | [], _, i, hi, _, _ => by cases hi
  | a :: l, hpq, i, hi, hp, hq => by
    have hle : ∀ (l : List α), (∀ x ∈ l, q x = true → p x = true) → (l.filter q).length ≤ (l.filter p).length := by
      intro l
      induction l with
      | nil => intro _; simp
      | cons b l ih =>
        intro h
        have := ih fun x hx => h x (List.mem_cons_of_mem _ hx)
        by_cases hqb : q b = true
        · simp [List.filter_cons, hqb, h b (List.mem_cons_self ..) hqb]; omega
        · by_cases hpb : p b = true <;> simp [List.filter_cons, hqb, hpb] <;> omega
    have h2 := hle l fun x hx => hpq x (List.mem_cons_of_mem _ hx)
    rcases List.mem_cons.1 hi with rfl | hi'
    · simp [List.filter_cons, hp, hq]; omega
    · have h3 := len_filter_lt l (fun x hx => hpq x (List.mem_cons_of_mem _ hx)) i hi' hp hq
      by_cases hqb : q a = true
      · simp [List.filter_cons, hqb, hpq a (List.mem_cons_self ..) hqb]; omega
      · by_cases hpb : p a = true <;> simp [List.filter_cons, hqb, hpb] <;> omega

def unl (n : Nat) (listed : Array Bool) : Nat := ((List.range n).filter fun j => !listed.getD j true).length

theorem wpGrow_any (hg : growB ops = true) (hS : ∀ V ∈ Vs, Stays V) (hC : ∀ w w', C w → Below w.heap.size w w' → C w') (hlen : Vs.length = ops.size)
    (h0 : wpGrow P ops C Q ops.toList Vs [] a0) {Q' : Exit → Act → World → Prop} (hQ : ∀ a w, Q a w → Q' .normal a w) :
    ∀ (fuel : Nat) (listed : Array Bool) (a : Act) (w : World) (x : Nat → Value), listed.size = ops.size → C w → Laid ops a0 (fun j => if listed.getD j false then some (x j) else none) a →
      (∀ j, j < ops.size → listed.getD j false = true → vAt Vs j (x j) w) → (∀ (i : Nat) (o : Oper), ops[i]? = some o → listed.getD i false = true → ∀ e ∈ o.after, Region.binds .any e = true → listed.getD e.on false = true) →
      unl ops.size listed ≤ fuel → wpAny P .any ops Q' fuel listed a w := by
  obtain ⟨hs1, hs2, hs3, hs4⟩ := growB_spec hg
  have hlt : ∀ {i : Nat} {o : Oper}, ops[i]? = some o → i < ops.size := fun ho => (Array.getElem?_eq_some_iff.1 ho).1
  -- where nothing may come up any more, all has come up
  have hend : ∀ (listed : Array Bool) (a : Act) (w : World) (x : Nat → Value), listed.size = ops.size → C w → Laid ops a0 (fun j => if listed.getD j false then some (x j) else none) a →
      (∀ j, j < ops.size → listed.getD j false = true → vAt Vs j (x j) w) → Region.ready .any ops listed = [] → Q' .normal a w := by
    intro listed a w x hsz hw hL hx hr
    have hall : ∀ n, ∀ j, j < n → j < ops.size → listed.getD j false = true := by
      intro n
      induction n with
      | zero => intro j hj; omega
      | succ n ih =>
        intro j hj hjs
        rcases Nat.lt_or_ge j n with hjn | hjn
        · exact ih j hjn hjs
        · obtain rfl : j = n := by omega
          cases hlj : listed.getD j false with
          | true => rfl
          | false =>
            exfalso
            have : j ∈ Region.ready .any ops listed := mem_ready.2 ⟨by
              have hj' : j < listed.size := by omega
              simpa [Array.getD, hj'] using hlj, ops[j], Array.getElem?_eq_getElem hjs, fun e he hb => ih e.on (hs1 j _ (Array.getElem?_eq_getElem hjs) e he hb) (by have := hs1 j _ (Array.getElem?_eq_getElem hjs) e he hb; omega)⟩
            rw [hr] at this
            cases this
    have hat := wpGrow_at hlen h0 x ops.size (Nat.le_refl _) fun j hj => ⟨w, hw, hx j hj (hall _ j hj hj)⟩
    rw [List.drop_of_length_le (by simp), List.drop_of_length_le (by omega)] at hat
    have hq := hat w hw fun j x' W hxW => by
      obtain ⟨hj, rfl, rfl⟩ := envAt_get hxW
      exact hx j hj (hall _ j hj hj)
    have he : a = lexA ops a0 x ops.size := Laid.same hL ((lexA_laid hg a0 x ops.size (Nat.le_refl _)).congr fun j hj => by simp only [hj, if_true, hall _ j hj hj])
    rw [he]
    exact hQ _ _ hq
  intro fuel
  induction fuel with
  | zero =>
    intro listed a w x hsz hw hL hx hcl hf
    have hr : Region.ready .any ops listed = [] := by
      rw [List.eq_nil_iff_forall_not_mem]
      intro i hi
      obtain ⟨h1, o, ho, _⟩ := mem_ready.1 hi
      have : i ∈ (List.range ops.size).filter fun j => !listed.getD j true := List.mem_filter.2 ⟨List.mem_range.2 (hlt ho), by rw [h1]; rfl⟩
      have hz : ((List.range ops.size).filter fun j => !listed.getD j true) = [] := List.eq_nil_of_length_eq_zero (by unfold unl at hf; omega)
      rw [hz] at this
      cases this
    exact ⟨hr, hend listed a w x hsz hw hL hx hr⟩
  | succ fuel ih =>
    intro listed a w x hsz hw hL hx hcl hf
    refine ⟨fun hr => hend listed a w x hsz hw hL hx hr, fun i hi => ?_⟩
    obtain ⟨hi1, o, ho, hdeps⟩ := mem_ready.1 hi
    have hin := hlt ho
    have hi2 := getD_of hi1
    have eV : vAt Vs i = Vs[i]'(by omega) := by simp [vAt, List.getD, List.getElem?_eq_getElem (show i < Vs.length by omega)]
    obtain ⟨y, w', hb, hyx, hy⟩ := exists_prefix hg hS hC hlen h0 hw (L := fun j => listed.getD j false) hx i (by omega)
    have hat := wpGrow_at hlen h0 y i (by omega) fun j hj => ⟨w', hC w w' hw hb, hy j hj⟩
    have hk1 : i < ops.toList.length := by rw [Array.length_toList]; omega
    have hk2 : i < Vs.length := by omega
    rw [List.drop_eq_getElem_cons (l := ops.toList) hk1, List.drop_eq_getElem_cons (l := Vs) hk2] at hat
    have eo : ops.toList[i]'(by simpa using hin) = o := by
      have := Array.getElem?_eq_getElem hin
      rw [ho] at this
      simpa using (Option.some.inj this).symm
    rw [eo, ← eV] at hat
    have hlex := lexA_laid hg a0 y i (by omega)
    have hag : ∀ t ∈ o.looksAt ops, a.tmps[t]? = (lexA ops a0 y i).tmps[t]? := by
      intro t ht
      by_cases hj : ∃ j, j < ops.size ∧ dstOf ops j = some t
      · obtain ⟨j, hjn, hjd⟩ := hj
        have only : ∀ j', j' < ops.size → dstOf ops j' = some t → j' = j := fun j' h1 h2 => hs2 j' j t h1 hjn h2 hjd
        have hother : (listed.getD j false = false) → i ≤ j → a.tmps[t]? = (lexA ops a0 y i).tmps[t]? := fun h1 h2 => by
          rw [hL.off t fun j' hj' hd' => by rw [only j' hj' hd', h1]; rfl, hlex.off t fun j' hj' hd' => by
            rw [only j' hj' hd']
            have : ¬ j < i := by omega
            simp [this]]
        rcases hs3 i j o t ho hjn hjd ht with h | h | h
        · obtain ⟨e, he, rfl, hbd⟩ := (waits_iff ho).1 h
          have hl := hdeps e he hbd
          have hji := hs1 i o ho e he hbd
          rw [hL.put e.on t (x e.on) hjn hjd (by rw [hl]; rfl), hlex.put e.on t (y e.on) hjn hjd (by simp [hji]), hyx e.on hl]
        · obtain ⟨e, he, rfl, hbd⟩ := (waits_iff (Array.getElem?_eq_getElem hjn)).1 h
          have hlt2 := hs1 j _ (Array.getElem?_eq_getElem hjn) e he hbd
          refine hother ?_ (by omega)
          cases hlj : listed.getD j false with
          | false => rfl
          | true =>
            have := hcl j _ (Array.getElem?_eq_getElem hjn) hlj e he hbd
            rw [hi2] at this
            cases this
        · subst h
          exact hother hi2 (Nat.le_refl _)
      · rw [hL.off t fun j hjn hjd => absurd ⟨j, hjn, hjd⟩ hj, hlex.off t fun j hjn hjd => absurd ⟨j, hjn, hjd⟩ hj]
    obtain ⟨hex, hwant⟩ := exec_agree (ops := ops) (hs4 i o · · ho) hag
    have hnext : ∀ v w2, C w2 → Below w.heap.size w w2 → vAt Vs i v w2 → wpAny P .any ops Q' fuel (listed.setIfInBounds i true) (a.put o.dst v) w2 := by
      intro v w2 hw2 hb2 hv
      have hset : ∀ j, (listed.setIfInBounds i true).getD j false = if j = i then true else listed.getD j false := fun j => by
        by_cases hji : j = i
        · subst hji
          have : j < listed.size := by omega
          simp [Array.getD, this]
        · rw [getD_set_ne false (fun e => hji e.symm)]
          simp [hji]
      refine ih _ _ _ (fun j => if j = i then v else x j) (by simpa using hsz) hw2 ?_ ?_ ?_ ?_
      · refine (hL.next hg ho (by rw [hi2]; rfl) v).congr fun j hj => ?_
        rw [hset]
        by_cases hji : j = i <;> simp [hji]
      · intro j hj hlj
        rw [hset] at hlj
        by_cases hji : j = i
        · subst hji; simpa using hv
        · simp only [hji, if_false] at hlj ⊢
          have e : vAt Vs j = Vs[j]'(by omega) := by simp [vAt, List.getD, List.getElem?_eq_getElem (show j < Vs.length by omega)]
          have := hx j hj hlj
          rw [e] at this ⊢
          exact hS _ (List.getElem_mem _) _ _ _ hb2 this
      · intro k ok hok hlk e he hbd
        rw [hset] at hlk ⊢
        by_cases hki : k = i
        · subst hki
          obtain rfl : ok = o := by rw [ho] at hok; exact (Option.some.inj hok).symm
          have := hdeps e he hbd
          by_cases h' : e.on = k <;> simp [h', this]
        · simp only [hki, if_false] at hlk
          have := hcl k ok hok hlk e he hbd
          by_cases h' : e.on = i <;> simp [h', this]
      · have : unl ops.size (listed.setIfInBounds i true) < unl ops.size listed := by
          refine len_filter_lt (List.range ops.size) (fun j _ hq => ?_) i (List.mem_range.2 hin) (by rw [hi1]; rfl) ?_
          · by_cases hji : j = i
            · subst hji; rw [hi1]; rfl
            · rwa [getD_set_ne true (fun e => hji e.symm)] at hq
          · have : i < listed.size := by omega
            simp [Array.getD, this]
        omega
    unfold wpOp
    simp only [ho]
    rw [hwant]
    have h1 := hat.1
    split
    · rename_i hwt
      rw [if_pos hwt] at h1
      refine .inl (wp_of_grows (V := vAt Vs i) ?_ fun v w2 hb2 hv => hnext v w2 (hC _ _ hw hb2) hb2 hv)
      unfold grows
      rw [hex]
      exact h1 w hw fun e he hbd x' W hxW => by
        obtain ⟨hlt2, rfl, rfl⟩ := envAt_get hxW
        have hl := hdeps e he hbd
        rw [hyx _ hl]
        exact hx _ (by omega) hl
    · rename_i hwt
      rw [if_neg hwt] at h1
      exact hnext undef w hw (Below.refl _ _) (h1 w hw)

/-- **ONE WALK IN THE ORDER OF THE TEXT SERVES EVERY ORDER**, where memory only grows. -/
theorem wp_region_grow {id : Nat} {Q' : Exit → Act → World → Prop} {w0 : World} (l : List Oper) (hm : P.follows .mixedOrders = true) (hg : growB l.toArray = true) (Vs : List VP) (hS : ∀ V ∈ Vs, Stays V) (hlen : Vs.length = l.length)
    (h0 : wpGrow P l.toArray (fun w => Below w0.heap.size w0 w) (fun a w => Q' .normal a w) l Vs [] a0) : (Code.region id l.toArray true).wp P Q' a0 w0 := by
  refine wp_region_any hm (wpGrow_any (C := fun w => Below w0.heap.size w0 w) (Q := fun a w => Q' .normal a w) hg hS (fun w w' h k => grow_trans h k) (by simpa using hlen) (by simpa using h0) (fun a w h => h) _ _ _ _ (fun _ => undef) (by simp) ?_ ?_ ?_ ?_ ?_)
  · exact ⟨rfl, rfl, rfl, Nat.le_refl _, fun _ _ => rfl⟩
  · refine (Laid.start a0).congr fun j hj => ?_
    have : (Array.replicate l.toArray.size false).getD j false = false := by unfold Array.getD; split <;> simp
    rw [this]
    rfl
  · intro j hj h
    have : (Array.replicate l.toArray.size false).getD j false = false := by unfold Array.getD; split <;> simp
    rw [this] at h
    cases h
  · intro i o ho h
    have : (Array.replicate l.toArray.size false).getD i false = false := by unfold Array.getD; split <;> simp
    rw [this] at h
    cases h
  · unfold unl
    exact Nat.le_trans (List.length_filter_le _ _) (by simp)

/-! ### The walk, step by step -/
def AllStay : List VP → Prop
  | [] => True
  | V :: Vs => Stays V ∧ AllStay Vs
theorem allStay : ∀ {Vs : List VP}, AllStay Vs → ∀ V ∈ Vs, Stays V
  | V :: Vs, h, W, hW => by
    rcases List.mem_cons.1 hW with rfl | hW
    · exact h.1
    · exact allStay h.2 W hW

theorem wp_region_grow_lit {id : Nat} {Q' : Exit → Act → World → Prop} {w0 : World} {l : List Oper} {a0 : Act} (hm : P.follows .mixedOrders = true) (hg : growB l.toArray = true)
    (h : ∃ Vs, wpGrow P l.toArray (fun w => Below w0.heap.size w0 w) (fun a w => Q' .normal a w) l Vs [] a0 ∧ AllStay Vs ∧ Vs.length = l.length) : (Code.region id l.toArray true).wp P Q' a0 w0 := by
  obtain ⟨Vs, h0, hS, hlen⟩ := h
  exact wp_region_grow l hm hg Vs (allStay hS) hlen h0

variable {C : World → Prop} {Q : Act → World → Prop} {a : Act} {o : Oper} {rest : List Oper} {Vs : List VP} {env : List (Value × VP)}

theorem wpGrow_is {c : Value} (hw : Region.wanted o (yielded ops a.tmps) = true)
    (h1 : ∀ w, C w → (∀ e ∈ o.after, Region.binds .any e = true → ∀ (x : Value) (W : VP), env[e.on]? = some (x, W) → W x w) → grows P o a w (Is c))
    (h2 : ∀ K : Act → Prop, (∀ a', wpGrow P ops C Q rest Vs (env ++ [(c, Is c)]) a' → K a') → K (a.put o.dst c)) : wpGrow P ops C Q (o :: rest) (Is c :: Vs) env a := by
  refine ⟨by rw [if_pos hw]; exact h1, fun x ⟨w, _, hx⟩ => ?_⟩
  obtain rfl : x = c := hx
  exact h2 _ fun _ h => h
theorem wpGrow_rel {V : VP} (hw : Region.wanted o (yielded ops a.tmps) = true)
    (h1 : ∀ w, C w → (∀ e ∈ o.after, Region.binds .any e = true → ∀ (x : Value) (W : VP), env[e.on]? = some (x, W) → W x w) → grows P o a w V)
    (h2 : ∀ x, (∃ w, C w ∧ V x w) → ∀ K : Act → Prop, (∀ a', wpGrow P ops C Q rest Vs (env ++ [(x, V)]) a' → K a') → K (a.put o.dst x)) : wpGrow P ops C Q (o :: rest) (V :: Vs) env a :=
  ⟨by rw [if_pos hw]; exact h1, fun x hx => h2 x hx _ fun _ h => h⟩
theorem wpGrow_skip (hw : Region.wanted o (yielded ops a.tmps) = false) (h2 : ∀ K : Act → Prop, (∀ a', wpGrow P ops C Q rest Vs (env ++ [(undef, Is undef)]) a' → K a') → K (a.put o.dst undef)) : wpGrow P ops C Q (o :: rest) (Is undef :: Vs) env a := by
  refine ⟨by rw [if_neg (by rw [hw]; simp)]; exact fun _ _ => rfl, fun x ⟨w, _, hx⟩ => ?_⟩
  obtain rfl : x = undef := hx
  exact h2 _ fun _ h => h
theorem wpGrow_end (h : ∀ w, C w → (∀ (j : Nat) (x : Value) (W : VP), env[j]? = some (x, W) → W x w) → Q a w) : wpGrow P ops C Q [] [] env a := h

theorem grows_value (w : World) (v : Value) : growsUpon P w (Is v) (.ok (.value v) w) := ⟨Below.refl _ _, rfl⟩
theorem grows_call {f : FuncId} {args : Array Value} {w : World} {v : Value} (h : Calls P f args w fun e w' => e = .returned v ∧ Below w.heap.size w w') : growsUpon P w (Is v) (.ok (.enter f args) w) :=
  ⟨Below.refl _ _, h.mono fun e w' ⟨he, hb⟩ => ⟨v, he, hb, rfl⟩⟩
theorem grows_same {f : FuncId} {args : Array Value} {w : World} {v : Value} (h : Calls P f args w fun e w' => e = .returned v ∧ w = w') : growsUpon P w (Is v) (.ok (.enter f args) w) :=
  grows_call (h.mono fun _ _ ⟨he, hw⟩ => ⟨he, hw ▸ Below.refl _ _⟩)
theorem grows_drawn {f : FuncId} {args : Array Value} {w : World} {v : Value} (h : Calls P f args w fun e w' => e = .returned v ∧ Drawn w w') : growsUpon P w (Is v) (.ok (.enter f args) w) :=
  grows_call (h.mono fun _ _ ⟨he, hw⟩ => ⟨he, hw.below _⟩)

end
end Go.Proofs.YtlidbgidbpaenaaDoor

namespace Go.Proofs.YtlidbgidbpaenaaDoor
open Go Go.RowKit
set_option linter.unusedVariables false

/-- A slice that reads as the bytes l. -/
def VBs (l : List UInt8) : VP := fun v w => Bs (fun _ => True) w v l
theorem Bs.later {S : Nat → Prop} {w w' : World} {v : Value} {l : List UInt8} (h : Bs S w v l) (hb : Below w.heap.size w w') : Bs S w' v l := by
  obtain ⟨A, c, rfl, h3, h4, h5, h6⟩ := h.at
  refine Bs.mk_ h3 h4 h5 fun hn => ?_
  obtain ⟨b, o, hA, hS, hc⟩ := h6 hn
  exact ⟨b, o, hA, hS, fun j hj => cell_later hb (hc j hj)⟩
theorem Stays.bs (l : List UInt8) : Stays (VBs l) := fun _ _ _ hb h => Bs.later h hb
theorem Bs.any {S : Nat → Prop} {w : World} {v : Value} {l : List UInt8} (h : Bs S w v l) : Bs (fun _ => True) w v l := Sl.more h fun _ _ => trivial

end Go.Proofs.YtlidbgidbpaenaaDoor
