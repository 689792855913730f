/- What the proof of TreeOpens needs, part 13. -/
import Derived.Test.YthbhkdhljlganaaGreatDoorTreeOpensJ2
import Derived.Test.YthbhkdhljlganaaGreatDoorTreeOpensJ3
import Derived.Laws.Rows

namespace Go.Proofs.YthbhkdhljlganaaGreatDoor
open Go Go.RowKit
set_option linter.unusedVariables false
set_option linter.unusedSimpArgs false

section
variable {P : Program} {ops : Array Oper}

def stepsUpon (P : Program) (w : World) (S : World → World → Prop) (V : VP) : Result Next → Prop
  | .ok (.value u) w' => S w w' ∧ V u w'
  | .ok .skip w' => S w w' ∧ V undef w'
  | .ok (.enter f args) w' => Calls P f args w' (fun e w'' => ∃ v, e = .returned v ∧ S w w'' ∧ V v w'')
  | _ => False
/-- Run in w, the operation makes a step of S and yields a value of V. -/
def steps (P : Program) (o : Oper) (a : Act) (w : World) (S : World → World → Prop) (V : VP) : Prop := stepsUpon P w S V ((execOp a.eval o).run P w)

theorem wp_of_steps {o : Oper} {a : Act} {w : World} {S : World → World → Prop} {V : VP} {K : Act → World → Prop} {Q : Exit → Act → World → Prop} (h : steps P o a w S V)
    (hK : ∀ v w', S w w' → V v w' → K (a.put o.dst v) w') : o.wp P a w K Q := by
  unfold steps at h
  unfold Oper.wp
  generalize (execOp a.eval o).run P w = r at *
  cases r with
  | ok n w' =>
    cases n <;> simp only [stepsUpon] at h <;> simp only [Oper.upon]
    case value u => exact hK _ _ h.1 h.2
    case skip => exact hK _ _ h.1 h.2
    case enter f args => exact h.mono fun e w'' ⟨v, he, hb, hv⟩ => by subst he; exact hK _ _ hb hv
  | halt x w' => simp only [stepsUpon] at h

theorem exists_of_steps {o : Oper} {a : Act} {w : World} {S : World → World → Prop} {V : VP} (h : steps P o a w S V) : ∃ v w', S w w' ∧ V v w' := by
  unfold steps at h
  generalize (execOp a.eval o).run P w = r at *
  cases r with
  | ok n w' =>
    cases n <;> simp only [stepsUpon] at h
    case value u => exact ⟨u, w', h⟩
    case skip => exact ⟨_, w', h⟩
    case enter f args =>
      obtain ⟨e, w'', fr, ⟨v, _, hb, hv⟩, _⟩ := h []
      exact ⟨v, w'', hb, hv⟩
  | halt x w' => simp only [stepsUpon] at h

/-- S: what each operation may do to the world; C: in what worlds it may come up; E: what holds all the while. -/
structure RegFr where
  S : Nat → World → World → Prop
  C : Nat → World → Prop
  E : World → Prop

/-- The walk in the order of the text. 'env': what the operations ahead have yielded. -/
def wpReg (P : Program) (ops : Array Oper) (R : RegFr) (Q : Act → World → Prop) : List Oper → List VP → List (Value × VP) → Act → Prop
  | o :: rest, V :: Vs, env, a =>
    (if Region.wanted o (yielded ops a.tmps) then ∀ w, R.C env.length w → (∀ e ∈ o.after, Region.binds .any e = true → ∀ (x : Value) (W : VP), env[e.on]? = some (x, W) → W x w) → steps P o a w (R.S env.length) V else ∀ w, R.C env.length w → V undef w) ∧
    ∀ x, (∃ w, R.E w ∧ V x w) → wpReg P ops R Q rest Vs (env ++ [(x, V)]) (a.put o.dst x)
  | [], [], env, a => ∀ w, R.E w → (∀ (j : Nat) (x : Value) (W : VP), env[j]? = some (x, W) → W x w) → Q a w
  | _, _, _, _ => False

structure RegFr.Ok (R : RegFr) (ops : Array Oper) (Vs : List VP) : Prop where
  V : ∀ i j, i < ops.size → j < ops.size → i ≠ j → waits ops j i = false → ∀ x w w', R.S i w w' → vAt Vs j x w → vAt Vs j x w'
  C : ∀ i j, i < ops.size → j < ops.size → i ≠ j → waits ops i j = false → ∀ w w', R.S i w w' → R.C j w → R.C j w'
  E : ∀ i, i < ops.size → ∀ w w', R.S i w w' → R.E w → R.E w'

theorem envAt_len (Vs : List VP) (y : Nat → Value) (k : Nat) : (envAt Vs y k).length = k := by simp [envAt]

variable {R : RegFr} {Q : Act → World → Prop} {Vs : List VP} {a0 : Act}

theorem wpReg_at (hlen : Vs.length = ops.size) (h0 : wpReg P ops R Q ops.toList Vs [] a0) (y : Nat → Value) : ∀ k, k ≤ ops.size → (∀ j, j < k → ∃ w, R.E w ∧ vAt Vs j (y j) w) →
    wpReg P ops R Q (ops.toList.drop k) (Vs.drop k) (envAt Vs y k) (lexA ops a0 y k)
  | 0, _, _ => by simpa [envAt, lexA] using h0
  | k + 1, hk, hy => by
    have ih := wpReg_at hlen h0 y k (by omega) fun j hj => hy j (by omega)
    have hk1 : k < ops.toList.length := by rw [Array.length_toList]; omega
    have hk2 : k < Vs.length := by omega
    rw [List.drop_eq_getElem_cons (l := ops.toList) hk1, List.drop_eq_getElem_cons (l := Vs) hk2] at ih
    have h2 := ih.2 (y k) (by
      obtain ⟨w, hw, hv⟩ := hy k (by omega)
      refine ⟨w, hw, ?_⟩
      have e : vAt Vs k = Vs[k]'(by omega) := by simp [vAt, List.getD, List.getElem?_eq_getElem (show k < Vs.length by omega)]
      rw [e] at hv
      exact hv)
    have e1 : envAt Vs y (k + 1) = envAt Vs y k ++ [(y k, Vs[k]'(by omega))] := by
      simp [envAt, List.range_succ, vAt, List.getD, List.getElem?_eq_getElem (show k < Vs.length by omega)]
    have e2 : lexA ops a0 y (k + 1) = (lexA ops a0 y k).put (ops.toList[k]'(by rw [Array.length_toList]; omega)).dst (y k) := by
      rw [lexA]
      congr 1
      simp [dstOf, Array.getElem?_eq_getElem (show k < ops.size by omega)]
    rw [e1, e2]
    exact h2

theorem waits_lt (hg : growB ops = true) {i j : Nat} (hi : i < ops.size) (h : waits ops i j = true) : j < i := by
  obtain ⟨e, he, rfl, hb⟩ := (waits_iff (Array.getElem?_eq_getElem hi)).1 h
  exact (growB_spec hg).1 i _ (Array.getElem?_eq_getElem hi) e he hb

/-- What has not come up yet could come up in the order of the text. -/
theorem reg_prefix (hg : growB ops = true) (hR : R.Ok ops Vs) (hlen : Vs.length = ops.size)
    (h0 : wpReg P ops R Q ops.toList Vs [] a0) {w : World} (hE : R.E w) {L : Nat → Bool} {x : Nat → Value} (hx : ∀ j, j < ops.size → L j = true → vAt Vs j (x j) w) (hcl : ∀ (i : Nat) (o : Oper), ops[i]? = some o → L i = true → ∀ e ∈ o.after, Region.binds .any e = true → L e.on = true) (hC : ∀ j, j < ops.size → L j = false → R.C j w) :
    ∀ k, k ≤ ops.size → ∃ (y : Nat → Value) (w' : World), R.E w' ∧ (∀ j, L j = true → y j = x j) ∧ (∀ j, j < ops.size → L j = true ∨ j < k → vAt Vs j (y j) w') ∧ ∀ j, j < ops.size → L j = false → k ≤ j → R.C j w'
  | 0, _ => ⟨x, w, hE, fun _ _ => rfl, fun j hj h => h.elim (hx j hj) (fun h => by omega), fun j hj hl _ => hC j hj hl⟩
  | k + 1, hk => by
    obtain ⟨y, w', hE', hyx, hy, hC'⟩ := reg_prefix hg hR hlen h0 hE hx hcl hC k (by omega)
    by_cases hL : L k = true
    · refine ⟨y, w', hE', hyx, fun j hj h => hy j hj ?_, fun j hj hl hkj => hC' j hj hl (by omega)⟩
      rcases h with h | h
      · exact .inl h
      · by_cases hjk : j = k
        · subst hjk; exact .inl hL
        · exact .inr (by omega)
    · have hL' : L k = false := by simpa using hL
      have hcw := hC' k (by omega) hL' (Nat.le_refl _)
      have hat := wpReg_at hlen h0 y k (by omega) fun j hj => ⟨w', hE', hy j (by omega) (.inr hj)⟩
      have hk1 : k < ops.toList.length := by rw [Array.length_toList]; omega
      have hk2 : k < Vs.length := by omega
      rw [List.drop_eq_getElem_cons (l := ops.toList) hk1, List.drop_eq_getElem_cons (l := Vs) hk2] at hat
      have e : vAt Vs k = Vs[k]'(by omega) := by simp [vAt, List.getD, List.getElem?_eq_getElem (show k < Vs.length by omega)]
      have hex : ∃ v w'', (w'' = w' ∨ R.S k w' w'') ∧ vAt Vs k v w'' := by
        have h1 := hat.1
        rw [envAt_len] at h1
        split at h1
        · obtain ⟨v, w'', hbb, hv⟩ := exists_of_steps (h1 w' hcw fun e he hbd x W hxW => by
            obtain ⟨hlt, rfl, rfl⟩ := envAt_get hxW
            exact hy _ (by omega) (.inr hlt))
          exact ⟨v, w'', .inr hbb, by rw [e]; exact hv⟩
        · exact ⟨undef, w', .inl rfl, by rw [e]; exact h1 w' hcw⟩
      obtain ⟨v, w'', hst, hv⟩ := hex
      refine ⟨fun j => if j = k then v else y j, w'', ?_, fun j hj => ?_, fun j hj h => ?_, fun j hj hl hkj => ?_⟩
      · rcases hst with rfl | hst
        · exact hE'
        · exact hR.E k (by omega) _ _ hst hE'
      · have hne : j ≠ k := by rintro rfl; exact hL hj
        simp only [hne, if_false]
        exact hyx j hj
      · by_cases hjk : j = k
        · subst hjk
          simpa using hv
        · simp only [hjk, if_false]
          have h4 := hy j hj (h.elim .inl fun h => .inr (by omega))
          rcases hst with rfl | hst
          · exact h4
          · refine hR.V k j (by omega) hj (fun e => hjk e.symm) ?_ _ _ _ hst h4
            cases hwt : waits ops j k with
            | false => rfl
            | true =>
              have hkj := waits_lt hg hj hwt
              rcases h with h | h
              · obtain ⟨e, he, he2, hbd⟩ := (waits_iff (Array.getElem?_eq_getElem hj)).1 hwt
                have := hcl j _ (Array.getElem?_eq_getElem hj) h e he hbd
                rw [he2, hL'] at this
                cases this
              · omega
      · have h4 := hC' j hj hl (by omega)
        rcases hst with rfl | hst
        · exact h4
        · refine hR.C k j (by omega) hj (by omega) ?_ _ _ hst h4
          cases hwt : waits ops k j with
          | false => rfl
          | true => exact absurd (waits_lt hg (by omega) hwt) (by omega)

theorem wpReg_any (hg : growB ops = true) (hR : R.Ok ops Vs) (hlen : Vs.length = ops.size)
    (h0 : wpReg P ops R Q ops.toList Vs [] a0) {Q' : Exit → Act → World → Prop} (hQ : ∀ a w, Q a w → Q' .normal a w) :
    ∀ (fuel : Nat) (listed : Array Bool) (a : Act) (w : World) (x : Nat → Value), listed.size = ops.size → R.E w → (∀ j, j < ops.size → listed.getD j false = false → R.C j w) → Laid ops a0 (fun j => if listed.getD j false then some (x j) else none) a →
      (∀ j, j < ops.size → listed.getD j false = true → vAt Vs j (x j) w) → (∀ (i : Nat) (o : Oper), ops[i]? = some o → listed.getD i false = true → ∀ e ∈ o.after, Region.binds .any e = true → listed.getD e.on false = true) →
      unl ops.size listed ≤ fuel → wpAny P .any ops Q' fuel listed a w := by
  obtain ⟨hs1, hs2, hs3, hs4⟩ := growB_spec hg
  have hlt : ∀ {i : Nat} {o : Oper}, ops[i]? = some o → i < ops.size := fun ho => (Array.getElem?_eq_some_iff.1 ho).1
  -- where nothing may come up any more, all has come up
  have hend : ∀ (listed : Array Bool) (a : Act) (w : World) (x : Nat → Value), listed.size = ops.size → R.E w → Laid ops a0 (fun j => if listed.getD j false then some (x j) else none) a →
      (∀ j, j < ops.size → listed.getD j false = true → vAt Vs j (x j) w) → Region.ready .any ops listed = [] → Q' .normal a w := by
    intro listed a w x hsz hw hL hx hr
    have hall : ∀ n, ∀ j, j < n → j < ops.size → listed.getD j false = true := by
      intro n
      induction n with
      | zero => intro j hj; omega
      | succ n ih =>
        intro j hj hjs
        rcases Nat.lt_or_ge j n with hjn | hjn
        · exact ih j hjn hjs
        · obtain rfl : j = n := by omega
          cases hlj : listed.getD j false with
          | true => rfl
          | false =>
            exfalso
            have : j ∈ Region.ready .any ops listed := mem_ready.2 ⟨by
              have hj' : j < listed.size := by omega
              simpa [Array.getD, hj'] using hlj, ops[j], Array.getElem?_eq_getElem hjs, fun e he hb => ih e.on (hs1 j _ (Array.getElem?_eq_getElem hjs) e he hb) (by have := hs1 j _ (Array.getElem?_eq_getElem hjs) e he hb; omega)⟩
            rw [hr] at this
            cases this
    have hat := wpReg_at hlen h0 x ops.size (Nat.le_refl _) fun j hj => ⟨w, hw, hx j hj (hall _ j hj hj)⟩
    rw [List.drop_of_length_le (by simp), List.drop_of_length_le (by omega)] at hat
    have hq := hat w hw fun j x' W hxW => by
      obtain ⟨hj, rfl, rfl⟩ := envAt_get hxW
      exact hx j hj (hall _ j hj hj)
    have he : a = lexA ops a0 x ops.size := Laid.same hL ((lexA_laid hg a0 x ops.size (Nat.le_refl _)).congr fun j hj => by simp only [hj, if_true, hall _ j hj hj])
    rw [he]
    exact hQ _ _ hq
  intro fuel
  induction fuel with
  | zero =>
    intro listed a w x hsz hw hC hL hx hcl hf
    have hr : Region.ready .any ops listed = [] := by
      rw [List.eq_nil_iff_forall_not_mem]
      intro i hi
      obtain ⟨h1, o, ho, _⟩ := mem_ready.1 hi
      have : i ∈ (List.range ops.size).filter fun j => !listed.getD j true := List.mem_filter.2 ⟨List.mem_range.2 (hlt ho), by rw [h1]; rfl⟩
      have hz : ((List.range ops.size).filter fun j => !listed.getD j true) = [] := List.eq_nil_of_length_eq_zero (by unfold unl at hf; omega)
      rw [hz] at this
      cases this
    exact ⟨hr, hend listed a w x hsz hw hL hx hr⟩
  | succ fuel ih =>
    intro listed a w x hsz hw hC hL hx hcl hf
    refine ⟨fun hr => hend listed a w x hsz hw hL hx hr, fun i hi => ?_⟩
    obtain ⟨hi1, o, ho, hdeps⟩ := mem_ready.1 hi
    have hin := hlt ho
    have hi2 := getD_of hi1
    have eV : vAt Vs i = Vs[i]'(by omega) := by simp [vAt, List.getD, List.getElem?_eq_getElem (show i < Vs.length by omega)]
    obtain ⟨y, w', hE', hyx, hy, _⟩ := reg_prefix hg hR hlen h0 hw (L := fun j => listed.getD j false) hx hcl hC i (by omega)
    have hat := wpReg_at hlen h0 y i (by omega) fun j hj => ⟨w', hE', hy j (by omega) (.inr hj)⟩
    have hk1 : i < ops.toList.length := by rw [Array.length_toList]; omega
    have hk2 : i < Vs.length := by omega
    rw [List.drop_eq_getElem_cons (l := ops.toList) hk1, List.drop_eq_getElem_cons (l := Vs) hk2] at hat
    have eo : ops.toList[i]'(by simpa using hin) = o := by
      have := Array.getElem?_eq_getElem hin
      rw [ho] at this
      simpa using (Option.some.inj this).symm
    rw [eo, ← eV] at hat
    have hlex := lexA_laid hg a0 y i (by omega)
    have hag : ∀ t ∈ o.looksAt ops, a.tmps[t]? = (lexA ops a0 y i).tmps[t]? := by
      intro t ht
      by_cases hj : ∃ j, j < ops.size ∧ dstOf ops j = some t
      · obtain ⟨j, hjn, hjd⟩ := hj
        have only : ∀ j', j' < ops.size → dstOf ops j' = some t → j' = j := fun j' h1 h2 => hs2 j' j t h1 hjn h2 hjd
        have hother : (listed.getD j false = false) → i ≤ j → a.tmps[t]? = (lexA ops a0 y i).tmps[t]? := fun h1 h2 => by
          rw [hL.off t fun j' hj' hd' => by rw [only j' hj' hd', h1]; rfl, hlex.off t fun j' hj' hd' => by
            rw [only j' hj' hd']
            have : ¬ j < i := by omega
            simp [this]]
        rcases hs3 i j o t ho hjn hjd ht with h | h | h
        · obtain ⟨e, he, rfl, hbd⟩ := (waits_iff ho).1 h
          have hl := hdeps e he hbd
          have hji := hs1 i o ho e he hbd
          rw [hL.put e.on t (x e.on) hjn hjd (by rw [hl]; rfl), hlex.put e.on t (y e.on) hjn hjd (by simp [hji]), hyx e.on hl]
        · obtain ⟨e, he, rfl, hbd⟩ := (waits_iff (Array.getElem?_eq_getElem hjn)).1 h
          have hlt2 := hs1 j _ (Array.getElem?_eq_getElem hjn) e he hbd
          refine hother ?_ (by omega)
          cases hlj : listed.getD j false with
          | false => rfl
          | true =>
            have := hcl j _ (Array.getElem?_eq_getElem hjn) hlj e he hbd
            rw [hi2] at this
            cases this
        · subst h
          exact hother hi2 (Nat.le_refl _)
      · rw [hL.off t fun j hjn hjd => absurd ⟨j, hjn, hjd⟩ hj, hlex.off t fun j hjn hjd => absurd ⟨j, hjn, hjd⟩ hj]
    obtain ⟨hex, hwant⟩ := exec_agree (ops := ops) (hs4 i o · · ho) hag
    have hnext : ∀ v w2, (w2 = w ∨ R.S i w w2) → vAt Vs i v w2 → wpAny P .any ops Q' fuel (listed.setIfInBounds i true) (a.put o.dst v) w2 := by
      intro v w2 hst hv
      have hset : ∀ j, (listed.setIfInBounds i true).getD j false = if j = i then true else listed.getD j false := fun j => by
        by_cases hji : j = i
        · subst hji
          have : j < listed.size := by omega
          simp [Array.getD, this]
        · rw [getD_set_ne false (fun e => hji e.symm)]
          simp [hji]
      refine ih _ _ _ (fun j => if j = i then v else x j) (by simpa using hsz) ?_ ?_ ?_ ?_ ?_ ?_
      · rcases hst with rfl | hst
        · exact hw
        · exact hR.E i hin _ _ hst hw
      · intro j hj hlj
        rw [hset] at hlj
        by_cases hji : j = i
        · simp [hji] at hlj
        · simp only [hji, if_false] at hlj
          have h4 := hC j hj hlj
          rcases hst with rfl | hst
          · exact h4
          · refine hR.C i j hin hj (fun e => hji e.symm) ?_ _ _ hst h4
            cases hwt : waits ops i j with
            | false => rfl
            | true =>
              obtain ⟨e, he, rfl, hbd⟩ := (waits_iff ho).1 hwt
              have := hdeps e he hbd
              rw [hlj] at this
              cases this
      · refine (hL.next hg ho (by rw [hi2]; rfl) v).congr fun j hj => ?_
        rw [hset]
        by_cases hji : j = i <;> simp [hji]
      · intro j hj hlj
        rw [hset] at hlj
        by_cases hji : j = i
        · subst hji; simpa using hv
        · simp only [hji, if_false] at hlj ⊢
          have h4 := hx j hj hlj
          rcases hst with rfl | hst
          · exact h4
          · refine hR.V i j hin hj (fun e => hji e.symm) ?_ _ _ _ hst h4
            cases hwt : waits ops j i with
            | false => rfl
            | true =>
              obtain ⟨e, he, he2, hbd⟩ := (waits_iff (Array.getElem?_eq_getElem hj)).1 hwt
              have := hcl j _ (Array.getElem?_eq_getElem hj) hlj e he hbd
              rw [he2, hi2] at this
              cases this
      · intro k ok hok hlk e he hbd
        rw [hset] at hlk ⊢
        by_cases hki : k = i
        · subst hki
          obtain rfl : ok = o := by rw [ho] at hok; exact (Option.some.inj hok).symm
          have := hdeps e he hbd
          by_cases h' : e.on = k <;> simp [h', this]
        · simp only [hki, if_false] at hlk
          have := hcl k ok hok hlk e he hbd
          by_cases h' : e.on = i <;> simp [h', this]
      · have : unl ops.size (listed.setIfInBounds i true) < unl ops.size listed := by
          refine len_filter_lt (List.range ops.size) (fun j _ hq => ?_) i (List.mem_range.2 hin) (by rw [hi1]; rfl) ?_
          · by_cases hji : j = i
            · subst hji; rw [hi1]; rfl
            · rwa [getD_set_ne true (fun e => hji e.symm)] at hq
          · have : i < listed.size := by omega
            simp [Array.getD, this]
        omega
    unfold wpOp
    simp only [ho]
    rw [hwant]
    have h1 := hat.1
    rw [envAt_len] at h1
    have hci := hC i hin hi2
    split
    · rename_i hwt
      rw [if_pos hwt] at h1
      refine .inl (wp_of_steps (S := R.S i) (V := vAt Vs i) ?_ fun v w2 hb2 hv => hnext v w2 (.inr hb2) hv)
      unfold steps
      rw [hex]
      exact h1 w hci fun e he hbd x' W hxW => by
        obtain ⟨hlt2, rfl, rfl⟩ := envAt_get hxW
        have hl := hdeps e he hbd
        rw [hyx _ hl]
        exact hx _ (by omega) hl
    · rename_i hwt
      rw [if_neg hwt] at h1
      exact hnext undef w (.inl rfl) (h1 w hci)

/-- **ONE WALK IN THE ORDER OF THE TEXT SERVES EVERY ORDER.** -/
theorem wp_region_reg {id : Nat} {Q' : Exit → Act → World → Prop} {w0 : World} (l : List Oper) (hm : P.follows .mixedOrders = true) (hg : growB l.toArray = true) (hR : R.Ok l.toArray Vs) (hlen : Vs.length = l.length)
    (hE : R.E w0.drew) (hC : ∀ j, j < l.toArray.size → R.C j w0.drew)
    (h0 : wpReg P l.toArray R (fun a w => Q' .normal a w) l Vs [] a0) : (Code.region id l.toArray true).wp P Q' a0 w0 := by
  have hno : ∀ j, (Array.replicate l.toArray.size false).getD j false = false := fun j => by unfold Array.getD; split <;> simp
  refine wp_region_any hm (wpReg_any (Q := fun a w => Q' .normal a w) hg hR (by simpa using hlen) (by simpa using h0) (fun a w h => h) _ _ _ _ (fun _ => undef) (by simp) hE (fun j hj _ => hC j hj) ?_ ?_ ?_ ?_)
  · refine (Laid.start a0).congr fun j hj => ?_
    rw [hno]
    rfl
  · intro j hj h
    rw [hno] at h
    cases h
  · intro i o ho h
    rw [hno] at h
    cases h
  · unfold unl
    exact Nat.le_trans (List.length_filter_le _ _) (by simp)

/-! ### The usual frame: some operations put cells of blocks that lie there; all others only make new memory -/
/-- Operation i puts the cells o to o + n of the block g, of type t. -/
structure Pt where
  i : Nat
  g : Nat
  t : TypeId
  o : Nat
  n : Nat
def Pt.hits (p : Pt) (b k : Nat) : Prop := p.g = b ∧ p.o ≤ k ∧ k < p.o + p.n
def Puts (p : Pt) (w w' : World) : Prop := ∃ cs cs', Blk w p.g p.t cs ∧ cs'.size = cs.size ∧ (∀ k, ¬ p.hits p.g k → cs'[k]? = cs[k]?) ∧ w' = w.setRow p.g cs'
theorem heap_setRow (w : World) (g : Nat) (cs : Array Value) (b : Nat) (hb : b ≠ g) : (w.setRow g cs).heap[b]? = w.heap[b]? := by
  unfold World.setRow
  simp only [Array.getElem?_modify]
  split
  · rename_i h; exact absurd h.symm hb
  · rfl
theorem size_setRow (w : World) (g : Nat) (cs : Array Value) : (w.setRow g cs).heap.size = w.heap.size := by simp [World.setRow]
theorem Blk.same {w : World} {g : Nat} {t t' : TypeId} {cs cs' : Array Value} (h : Blk w g t cs) (h' : Blk w g t' cs') : t = t' ∧ cs = cs' := by
  unfold Blk at h h'
  rw [h] at h'
  injection h' with h'
  injection h' with h1 h2
  exact ⟨h2, h1⟩

/-- But for the cells of X, and new blocks, all is as it was. -/
structure Kept (X : Nat → Nat → Prop) (w w' : World) : Prop where
  os : w'.os = w.os
  tape : w'.tape = w.tape
  output : w'.output = w.output
  size : w.heap.size ≤ w'.heap.size
  blk : ∀ b t cs, Blk w b t cs → ∃ cs', Blk w' b t cs' ∧ cs'.size = cs.size ∧ ∀ k, ¬ X b k → cs'[k]? = cs[k]?
  rest : ∀ b, b < w.heap.size → (∀ t cs, ¬ Blk w b t cs) → w'.heap[b]? = w.heap[b]?
theorem Kept.drew (X : Nat → Nat → Prop) (w : World) : Kept X w w.drew := ⟨rfl, rfl, rfl, Nat.le_refl _, fun _ _ cs h => ⟨cs, h, rfl, fun _ _ => rfl⟩, fun _ _ _ => rfl⟩
section
variable {X Y : Nat → Nat → Prop} {w w1 w2 : World}
theorem Kept.mono (h : Kept X w w1) (hX : ∀ b k, X b k → Y b k) : Kept Y w w1 := ⟨h.os, h.tape, h.output, h.size, fun b t cs hb => by
  obtain ⟨cs', h1, h2, h3⟩ := h.blk b t cs hb
  exact ⟨cs', h1, h2, fun k hk => h3 k fun e => hk (hX b k e)⟩, h.rest⟩
theorem Kept.later (h : Kept X w w1) (k : Below w1.heap.size w1 w2) : Kept X w w2 := ⟨k.os.trans h.os, k.tape.trans h.tape, k.output.trans h.output, Nat.le_trans h.size k.size, fun b t cs hb => by
  obtain ⟨cs', h1, h2, h3⟩ := h.blk b t cs hb
  exact ⟨cs', h1.later k, h2, h3⟩, fun b hb hn => (k.block b (Nat.lt_of_lt_of_le hb h.size)).trans (h.rest b hb hn)⟩
theorem Kept.puts (h : Kept X w w1) {p : Pt} (k : Puts p w1 w2) (hX : ∀ k, p.hits p.g k → X p.g k) : Kept X w w2 := by
  obtain ⟨cs, cs', h1, h2, h3, rfl⟩ := k
  refine ⟨h.os, h.tape, h.output, by rw [size_setRow]; exact h.size, fun b t ds hb => ?_, fun b hb hn => ?_⟩
  · obtain ⟨ds', g1, g2, g3⟩ := h.blk b t ds hb
    by_cases hbg : b = p.g
    · subst hbg
      obtain ⟨rfl, rfl⟩ := g1.same h1
      exact ⟨cs', g1.setRow cs', h2.trans g2, fun k hk => (h3 k fun e => hk (hX k e)).trans (g3 k hk)⟩
    · exact ⟨ds', (heap_setRow w1 p.g cs' b hbg).trans g1, g2, g3⟩
  · by_cases hbg : b = p.g
    · subst hbg
      have := h.rest _ hb hn
      refine absurd ?_ (hn p.t cs)
      unfold Blk at h1 ⊢
      rw [← this]
      exact h1
    · exact (heap_setRow w1 p.g cs' b hbg).trans (h.rest b hb hn)
theorem Kept.at (h : Kept X w w1) {g : Nat} {t : TypeId} {cs : Array Value} (hb : Blk w g t cs) (hX : ∀ k, ¬ X g k) : Blk w1 g t cs := by
  obtain ⟨cs', h1, h2, h3⟩ := h.blk g t cs hb
  obtain rfl : cs' = cs := Array.ext_getElem? fun k => h3 k (hX k)
  exact h1
theorem Kept.heap (h : Kept X w w1) {b : Nat} (hb : b < w.heap.size) (hX : ∀ k, ¬ X b k) : w1.heap[b]? = w.heap[b]? := by
  by_cases hn : ∃ t cs, Blk w b t cs
  · obtain ⟨t, cs, hbk⟩ := hn
    have := h.at hbk hX
    unfold Blk at this hbk
    rw [this, hbk]
  · exact h.rest b hb fun t cs e => hn ⟨t, cs, e⟩
theorem Kept.below (h : Kept X w w1) {B : Nat} (hB : B ≤ w.heap.size) (hX : ∀ b k, X b k → B ≤ b) : Below B w w1 :=
  ⟨h.os, h.tape, h.output, h.size, fun b hb => h.heap (Nat.lt_of_lt_of_le hb hB) fun k e => by have := hX b k e; omega⟩
theorem Kept.cell (h : Kept X w w1) {b k : Nat} {v : Value} (hc : w.cell? ⟨b, k, none⟩ = some v) (hX : ¬ X b k) : w1.cell? ⟨b, k, none⟩ = some v := by
  by_cases hn : ∃ t cs, Blk w b t cs
  · obtain ⟨t, cs, hbk⟩ := hn
    obtain ⟨cs', h1, _, h3⟩ := h.blk b t cs hbk
    rw [hbk.cell] at hc
    rw [h1.cell, h3 k hX]
    exact hc
  · have hlt : b < w.heap.size := by
      rcases Nat.lt_or_ge b w.heap.size with h1 | h1
      · exact h1
      · simp [World.cell?, Array.getElem?_eq_none h1] at hc
    have := h.rest b hlt fun t cs e => hn ⟨t, cs, e⟩
    rw [World.cell?_of_block (a := ⟨b, k, none⟩) this]
    exact hc
end

def ptS (st : List Pt) (i : Nat) : World → World → Prop := fun w w' => match st.find? (fun p => p.i == i) with
  | some p => Puts p w w'
  | none => Below w.heap.size w w'
/-- Which cells may have turned when operation j comes up. -/
def ptX (ops : Array Oper) (st : List Pt) (j : Nat) : Nat → Nat → Prop := fun b k => ∃ p ∈ st, p.i ≠ j ∧ waits ops p.i j = false ∧ p.hits b k
def ptE (st : List Pt) : Nat → Nat → Prop := fun b k => ∃ p ∈ st, p.hits b k
def ptR (ops : Array Oper) (st : List Pt) (w0 : World) : RegFr := ⟨ptS st, fun j => Kept (ptX ops st j) w0, Kept (ptE st) w0⟩
theorem ptX_E {ops : Array Oper} {st : List Pt} {j : Nat} (b k : Nat) (h : ptX ops st j b k) : ptE st b k := by
  obtain ⟨p, h1, _, _, h2⟩ := h
  exact ⟨p, h1, h2⟩
def PStays (p : Pt) (V : VP) : Prop := ∀ v w w', Puts p w w' → V v w → V v w'
def AllOk (ops : Array Oper) (st : List Pt) : Nat → List VP → Prop
  | _, [] => True
  | j, V :: Vs => (Stays V ∧ ∀ p ∈ st, p.i ≠ j → waits ops j p.i = false → PStays p V) ∧ AllOk ops st (j + 1) Vs
theorem allOk {st : List Pt} : ∀ {Vs : List VP} {n : Nat}, AllOk ops st n Vs → ∀ j, j < Vs.length → Stays (vAt Vs j) ∧ ∀ p ∈ st, p.i ≠ n + j → waits ops (n + j) p.i = false → PStays p (vAt Vs j)
  | V :: Vs, n, h, 0, _ => h.1
  | V :: Vs, n, h, j + 1, hj => by
    have := allOk h.2 j (by simp only [List.length_cons] at hj; omega)
    rw [show n + 1 + j = n + (j + 1) from by omega] at this
    exact this
theorem pt_find {st : List Pt} {i : Nat} {p : Pt} (h : st.find? (fun p => p.i == i) = some p) : p ∈ st ∧ p.i = i := by
  have h1 := List.find?_some h
  exact ⟨List.mem_of_find?_eq_some h, by simpa using h1⟩
theorem ptR_ok {st : List Pt} {w0 : World} (hlen : Vs.length = ops.size) (h : AllOk ops st 0 Vs) : (ptR ops st w0).Ok ops Vs := by
  refine ⟨fun i j hi hj hne hwt x w w' hS hv => ?_, fun i j hi hj hne hwt w w' hS hC => ?_, fun i hi w w' hS hE => ?_⟩
  · have h1 := allOk h j (by omega)
    rw [Nat.zero_add] at h1
    simp only [ptR, ptS] at hS
    split at hS
    · rename_i p hp
      obtain ⟨hm, rfl⟩ := pt_find hp
      exact h1.2 p hm hne hwt x w w' hS hv
    · exact h1.1 x w w' hS hv
  · simp only [ptR, ptS] at hS hC ⊢
    split at hS
    · rename_i p hp
      obtain ⟨hm, rfl⟩ := pt_find hp
      exact hC.puts hS fun k hk => ⟨p, hm, hne, hwt, hk⟩
    · exact hC.later hS
  · simp only [ptR, ptS] at hS hE ⊢
    split at hS
    · rename_i p hp
      obtain ⟨hm, rfl⟩ := pt_find hp
      exact hE.puts hS fun k hk => ⟨p, hm, hk⟩
    · exact hE.later hS

theorem wp_region_put {id : Nat} {Q' : Exit → Act → World → Prop} {w0 : World} {l : List Oper} {a0 : Act} (st : List Pt) (hm : P.follows .mixedOrders = true) (hg : growB l.toArray = true)
    (h : ∃ Vs, wpReg P l.toArray (ptR l.toArray st w0) (fun a w => Q' .normal a w) l Vs [] a0 ∧ AllOk l.toArray st 0 Vs ∧ Vs.length = l.length) : (Code.region id l.toArray true).wp P Q' a0 w0 := by
  obtain ⟨Vs, h0, hS, hlen⟩ := h
  exact wp_region_reg l hm hg (ptR_ok (by simpa using hlen) hS) hlen (Kept.drew _ _) (fun _ _ => Kept.drew _ _) h0

/-! ### The walk, step by step -/
section
variable {Q : Act → World → Prop} {a : Act} {o : Oper} {rest : List Oper} {Vs : List VP} {env : List (Value × VP)} {st : List Pt} {w0 : World}
theorem wpReg_is {c : Value} (hw : Region.wanted o (yielded ops a.tmps) = true) (hs : st.find? (fun p => p.i == env.length) = none)
    (h1 : ∀ w, Kept (ptX ops st env.length) w0 w → (∀ e ∈ o.after, Region.binds .any e = true → ∀ (x : Value) (W : VP), env[e.on]? = some (x, W) → W x w) → grows P o a w (Is c))
    (h2 : ∀ K : Act → Prop, (∀ a', wpReg P ops (ptR ops st w0) Q rest Vs (env ++ [(c, Is c)]) a' → K a') → K (a.put o.dst c)) : wpReg P ops (ptR ops st w0) Q (o :: rest) (Is c :: Vs) env a := by
  refine ⟨?_, fun x ⟨w, _, hx⟩ => ?_⟩
  · rw [if_pos hw]
    intro w hC hf
    have h3 := h1 w hC hf
    have eS : (ptR ops st w0).S env.length = fun w w' => Below w.heap.size w w' := by funext w w'; simp only [ptR, ptS, hs]
    rw [eS]
    unfold grows at h3
    unfold steps
    revert h3
    cases (execOp a.eval o).run P w with
    | ok n w' =>
      cases n <;> simp only [growsUpon, stepsUpon] <;> first | exact fun h => h | exact fun h => h.2.mono fun e w'' ⟨v, he, hb, hv⟩ => ⟨v, he, grow_trans h.1 hb, hv⟩
    | halt x w' => simp only [growsUpon, stepsUpon]; exact fun h => h
  · obtain rfl : x = c := hx
    exact h2 _ fun _ h => h
theorem wpReg_rel {V : VP} (hw : Region.wanted o (yielded ops a.tmps) = true) (hs : st.find? (fun p => p.i == env.length) = none)
    (h1 : ∀ w, Kept (ptX ops st env.length) w0 w → (∀ e ∈ o.after, Region.binds .any e = true → ∀ (x : Value) (W : VP), env[e.on]? = some (x, W) → W x w) → grows P o a w V)
    (h2 : ∀ x, (∃ w, Kept (ptE st) w0 w ∧ V x w) → ∀ K : Act → Prop, (∀ a', wpReg P ops (ptR ops st w0) Q rest Vs (env ++ [(x, V)]) a' → K a') → K (a.put o.dst x)) : wpReg P ops (ptR ops st w0) Q (o :: rest) (V :: Vs) env a := by
  refine ⟨?_, fun x hx => h2 x hx _ fun _ h => h⟩
  rw [if_pos hw]
  intro w hC hf
  have h3 := h1 w hC hf
  have eS : (ptR ops st w0).S env.length = fun w w' => Below w.heap.size w w' := by funext w w'; simp only [ptR, ptS, hs]
  rw [eS]
  unfold grows at h3
  unfold steps
  revert h3
  cases (execOp a.eval o).run P w with
  | ok n w' =>
    cases n <;> simp only [growsUpon, stepsUpon] <;> first | exact fun h => h | exact fun h => h.2.mono fun e w'' ⟨v, he, hb, hv⟩ => ⟨v, he, grow_trans h.1 hb, hv⟩
  | halt x w' => simp only [growsUpon, stepsUpon]; exact fun h => h
theorem wpReg_end (h : ∀ w, Kept (ptE st) w0 w → (∀ (j : Nat) (x : Value) (W : VP), env[j]? = some (x, W) → W x w) → Q a w) : wpReg P ops (ptR ops st w0) Q [] [] env a := h
/-- The block g holds what is R. -/
def HasV (g : Nat) (t : TypeId) (R : VP) : VP := fun v w => v = undef ∧ ∃ cs, Blk w g t cs ∧ R (.agg cs) w
theorem HasV.stays {g : Nat} {t : TypeId} {R : VP} (h : Stays R) : Stays (HasV g t R) := fun v w w' hb ⟨h1, cs, h2, h3⟩ => ⟨h1, cs, h2.later hb, h _ _ _ hb h3⟩
theorem ptE1_not {i g n : Nat} {t : TypeId} {b : Nat} (h : b ≠ g) (k : Nat) : ¬ ptE [⟨i, g, t, 0, n⟩] b k := by
  rintro ⟨p, hp, e, _⟩
  simp only [List.mem_cons, List.not_mem_nil, or_false] at hp
  subst hp
  exact h e.symm
theorem Is.pstays (c : Value) (p : Pt) : PStays p (Is c) := fun _ _ _ _ h => h
theorem okIs (ops : Array Oper) (st : List Pt) (j : Nat) (c : Value) : Stays (Is c) ∧ ∀ p ∈ st, p.i ≠ j → waits ops j p.i = false → PStays p (Is c) := ⟨Stays.is c, fun p _ _ _ => Is.pstays c p⟩
end
end
end Go.Proofs.YthbhkdhljlganaaGreatDoor

namespace Go.Proofs.YthbhkdhljlganaaGreatDoor
open Go Go.RowKit
set_option linter.unusedVariables false
set_option linter.unusedSimpArgs false

section
variable {P : Program} {ops : Array Oper}
/-- What an operation leaves; the first argument: what the operations have yielded (those that it waits for alone may be looked at). -/
abbrev DP := (Nat → Value) → VP
def yOf (env : List (Value × VP)) : Nat → Value := fun i => ((env[i]?).map (·.1)).getD undef
def dpAt (Ds : List DP) (j : Nat) : DP := Ds.getD j fun _ _ _ => True
def envD (Ds : List DP) (y : Nat → Value) (k : Nat) : List (Value × VP) := (List.range k).map fun j => (y j, dpAt Ds j y)
theorem envD_len (Ds : List DP) (y : Nat → Value) (k : Nat) : (envD Ds y k).length = k := by simp [envD]
theorem envD_get {Ds : List DP} {y : Nat → Value} {k j : Nat} {x : Value} {W : VP} (h : (envD Ds y k)[j]? = some (x, W)) : j < k ∧ x = y j ∧ W = dpAt Ds j y := by
  unfold envD at h
  rw [List.getElem?_map, Option.map_eq_some_iff] at h
  obtain ⟨i, hi, h2⟩ := h
  obtain ⟨h3, h4⟩ := List.getElem?_eq_some_iff.1 hi
  rw [List.getElem_range] at h4
  subst h4
  simp only [List.length_range] at h3
  injection h2 with h5 h6
  exact ⟨h3, h5.symm, h6.symm⟩
theorem yOf_envD {Ds : List DP} {y : Nat → Value} {k i : Nat} (hi : i < k) : yOf (envD Ds y k) i = y i := by
  unfold yOf envD
  rw [List.getElem?_map, List.getElem?_range hi]
  rfl
/-- The walk in the order of the text. -/
def wpRgd (P : Program) (ops : Array Oper) (R : RegFr) (Q : Act → World → Prop) : List Oper → List DP → List (Value × VP) → Act → Prop
  | o :: rest, D :: Ds, env, a =>
    (if Region.wanted o (yielded ops a.tmps) then ∀ w, R.C env.length w → (∀ e ∈ o.after, Region.binds .any e = true → ∀ (x : Value) (W : VP), env[e.on]? = some (x, W) → W x w) → steps P o a w (R.S env.length) (D (yOf env)) else ∀ w, R.C env.length w → D (yOf env) undef w) ∧
    ∀ x, (∃ w, R.E w ∧ D (yOf env) x w) → wpRgd P ops R Q rest Ds (env ++ [(x, D (yOf env))]) (a.put o.dst x)
  | [], [], env, a => ∀ w, R.E w → (∀ (j : Nat) (x : Value) (W : VP), env[j]? = some (x, W) → W x w) → Q a w
  | _, _, _, _ => False
structure RegFr.OkD (R : RegFr) (ops : Array Oper) (Ds : List DP) : Prop where
  V : ∀ i j, i < ops.size → j < ops.size → i ≠ j → waits ops j i = false → ∀ y x w w', R.S i w w' → dpAt Ds j y x w → dpAt Ds j y x w'
  C : ∀ i j, i < ops.size → j < ops.size → i ≠ j → waits ops i j = false → ∀ w w', R.S i w w' → R.C j w → R.C j w'
  E : ∀ i, i < ops.size → ∀ w w', R.S i w w' → R.E w → R.E w'
  D : ∀ j, j < ops.size → ∀ y y' : Nat → Value, (∀ i, waits ops j i = true → y i = y' i) → dpAt Ds j y = dpAt Ds j y'
theorem dep_at {R : RegFr} {Ds : List DP} (hg : growB ops = true) (hR : R.OkD ops Ds) {y : Nat → Value} {k : Nat} (hk : k < ops.size) : dpAt Ds k (yOf (envD Ds y k)) = dpAt Ds k y :=
  hR.D k hk _ _ fun i hi => yOf_envD (waits_lt hg hk hi)

variable {R : RegFr} {Q : Act → World → Prop} {Ds : List DP} {a0 : Act}

theorem wpRgd_at (hg : growB ops = true) (hR : R.OkD ops Ds) (hlen : Ds.length = ops.size) (h0 : wpRgd P ops R Q ops.toList Ds [] a0) (y : Nat → Value) : ∀ k, k ≤ ops.size → (∀ j, j < k → ∃ w, R.E w ∧ dpAt Ds j y (y j) w) →
    wpRgd P ops R Q (ops.toList.drop k) (Ds.drop k) (envD Ds y k) (lexA ops a0 y k)
  | 0, _, _ => by simpa [envD, lexA] using h0
  | k + 1, hk, hy => by
    have ih := wpRgd_at hg hR hlen h0 y k (by omega) fun j hj => hy j (by omega)
    have hk1 : k < ops.toList.length := by rw [Array.length_toList]; omega
    have hk2 : k < Ds.length := by omega
    rw [List.drop_eq_getElem_cons (l := ops.toList) hk1, List.drop_eq_getElem_cons (l := Ds) hk2] at ih
    have h2 := ih.2 (y k) (by
      obtain ⟨w, hw, hv⟩ := hy k (by omega)
      refine ⟨w, hw, ?_⟩
      have e : dpAt Ds k = Ds[k]'(by omega) := by unfold dpAt; simp [List.getD, List.getElem?_eq_getElem (show k < Ds.length by omega)]
      rw [← dep_at hg hR (by omega), e] at hv
      exact hv)
    have e1 : envD Ds y (k + 1) = envD Ds y k ++ [(y k, (Ds[k]'(by omega)) (yOf (envD Ds y k)))] := by
      have e : dpAt Ds k = Ds[k]'(by omega) := by unfold dpAt; simp [List.getD, List.getElem?_eq_getElem (show k < Ds.length by omega)]
      rw [← e, dep_at hg hR (by omega)]
      simp [envD, List.range_succ]
    have e2 : lexA ops a0 y (k + 1) = (lexA ops a0 y k).put (ops.toList[k]'(by rw [Array.length_toList]; omega)).dst (y k) := by
      rw [lexA]
      congr 1
      simp [dstOf, Array.getElem?_eq_getElem (show k < ops.size by omega)]
    rw [e1, e2]
    exact h2

/-- What has not come up yet could come up in the order of the text. -/
theorem rgd_prefix (hg : growB ops = true) (hR : R.OkD ops Ds) (hlen : Ds.length = ops.size)
    (h0 : wpRgd P ops R Q ops.toList Ds [] a0) {w : World} (hE : R.E w) {L : Nat → Bool} {x : Nat → Value} (hx : ∀ j, j < ops.size → L j = true → dpAt Ds j x (x j) w) (hcl : ∀ (i : Nat) (o : Oper), ops[i]? = some o → L i = true → ∀ e ∈ o.after, Region.binds .any e = true → L e.on = true) (hC : ∀ j, j < ops.size → L j = false → R.C j w) :
    ∀ k, k ≤ ops.size → ∃ (y : Nat → Value) (w' : World), R.E w' ∧ (∀ j, L j = true → y j = x j) ∧ (∀ j, j < ops.size → L j = true ∨ j < k → dpAt Ds j y (y j) w') ∧ ∀ j, j < ops.size → L j = false → k ≤ j → R.C j w'
  | 0, _ => ⟨x, w, hE, fun _ _ => rfl, fun j hj h => h.elim (hx j hj) (fun h => by omega), fun j hj hl _ => hC j hj hl⟩
  | k + 1, hk => by
    obtain ⟨y, w', hE', hyx, hy, hC'⟩ := rgd_prefix hg hR hlen h0 hE hx hcl hC k (by omega)
    by_cases hL : L k = true
    · refine ⟨y, w', hE', hyx, fun j hj h => hy j hj ?_, fun j hj hl hkj => hC' j hj hl (by omega)⟩
      rcases h with h | h
      · exact .inl h
      · by_cases hjk : j = k
        · subst hjk; exact .inl hL
        · exact .inr (by omega)
    · have hL' : L k = false := by simpa using hL
      have hcw := hC' k (by omega) hL' (Nat.le_refl _)
      have hat := wpRgd_at hg hR hlen h0 y k (by omega) fun j hj => ⟨w', hE', hy j (by omega) (.inr hj)⟩
      have hk1 : k < ops.toList.length := by rw [Array.length_toList]; omega
      have hk2 : k < Ds.length := by omega
      rw [List.drop_eq_getElem_cons (l := ops.toList) hk1, List.drop_eq_getElem_cons (l := Ds) hk2] at hat
      have e : dpAt Ds k = Ds[k]'(by omega) := by unfold dpAt; simp [List.getD, List.getElem?_eq_getElem (show k < Ds.length by omega)]
      have dep := dep_at (y := y) hg hR (show k < ops.size by omega)
      have hex : ∃ v w'', (w'' = w' ∨ R.S k w' w'') ∧ dpAt Ds k y v w'' := by
        have h1 := hat.1
        rw [envD_len] at h1
        split at h1
        · obtain ⟨v, w'', hbb, hv⟩ := exists_of_steps (h1 w' hcw fun e he hbd x W hxW => by
            obtain ⟨hlt, rfl, rfl⟩ := envD_get hxW
            exact hy _ (by omega) (.inr hlt))
          exact ⟨v, w'', .inr hbb, by rw [← dep, e]; exact hv⟩
        · exact ⟨undef, w', .inl rfl, by rw [← dep, e]; exact h1 w' hcw⟩
      obtain ⟨v, w'', hst, hv⟩ := hex
      have ed : ∀ j, j < ops.size → waits ops j k = false → dpAt Ds j (fun j => if j = k then v else y j) = dpAt Ds j y := fun j hj hw => hR.D j hj _ _ fun i hi => by
        have : i ≠ k := fun e => by subst e; rw [hw] at hi; cases hi
        simp [this]
      refine ⟨fun j => if j = k then v else y j, w'', ?_, fun j hj => ?_, fun j hj h => ?_, fun j hj hl hkj => ?_⟩
      · rcases hst with rfl | hst
        · exact hE'
        · exact hR.E k (by omega) _ _ hst hE'
      · have hne : j ≠ k := by rintro rfl; exact hL hj
        simp only [hne, if_false]
        exact hyx j hj
      · by_cases hjk : j = k
        · subst hjk
          rw [ed j hj (by
            cases hwt : waits ops j j with
            | false => rfl
            | true => exact absurd (waits_lt hg hj hwt) (by omega))]
          simpa using hv
        · have hwt : waits ops j k = false := by
            cases hwt : waits ops j k with
            | false => rfl
            | true =>
              have hkj := waits_lt hg hj hwt
              rcases h with h | h
              · obtain ⟨e, he, he2, hbd⟩ := (waits_iff (Array.getElem?_eq_getElem hj)).1 hwt
                have := hcl j _ (Array.getElem?_eq_getElem hj) h e he hbd
                rw [he2, hL'] at this
                cases this
              · omega
          rw [ed j hj hwt]
          simp only [hjk, if_false]
          have h4 := hy j hj (h.elim .inl fun h => .inr (by omega))
          rcases hst with rfl | hst
          · exact h4
          · exact hR.V k j (by omega) hj (fun e => hjk e.symm) hwt _ _ _ _ hst h4
      · have h4 := hC' j hj hl (by omega)
        rcases hst with rfl | hst
        · exact h4
        · refine hR.C k j (by omega) hj (by omega) ?_ _ _ hst h4
          cases hwt : waits ops k j with
          | false => rfl
          | true => exact absurd (waits_lt hg (by omega) hwt) (by omega)

theorem wpRgd_any (hg : growB ops = true) (hR : R.OkD ops Ds) (hlen : Ds.length = ops.size)
    (h0 : wpRgd P ops R Q ops.toList Ds [] a0) {Q' : Exit → Act → World → Prop} (hQ : ∀ a w, Q a w → Q' .normal a w) :
    ∀ (fuel : Nat) (listed : Array Bool) (a : Act) (w : World) (x : Nat → Value), listed.size = ops.size → R.E w → (∀ j, j < ops.size → listed.getD j false = false → R.C j w) → Laid ops a0 (fun j => if listed.getD j false then some (x j) else none) a →
      (∀ j, j < ops.size → listed.getD j false = true → dpAt Ds j x (x j) w) → (∀ (i : Nat) (o : Oper), ops[i]? = some o → listed.getD i false = true → ∀ e ∈ o.after, Region.binds .any e = true → listed.getD e.on false = true) →
      unl ops.size listed ≤ fuel → wpAny P .any ops Q' fuel listed a w := by
  obtain ⟨hs1, hs2, hs3, hs4⟩ := growB_spec hg
  have hlt : ∀ {i : Nat} {o : Oper}, ops[i]? = some o → i < ops.size := fun ho => (Array.getElem?_eq_some_iff.1 ho).1
  -- where nothing may come up any more, all has come up
  have hend : ∀ (listed : Array Bool) (a : Act) (w : World) (x : Nat → Value), listed.size = ops.size → R.E w → Laid ops a0 (fun j => if listed.getD j false then some (x j) else none) a →
      (∀ j, j < ops.size → listed.getD j false = true → dpAt Ds j x (x j) w) → Region.ready .any ops listed = [] → Q' .normal a w := by
    intro listed a w x hsz hw hL hx hr
    have hall : ∀ n, ∀ j, j < n → j < ops.size → listed.getD j false = true := by
      intro n
      induction n with
      | zero => intro j hj; omega
      | succ n ih =>
        intro j hj hjs
        rcases Nat.lt_or_ge j n with hjn | hjn
        · exact ih j hjn hjs
        · obtain rfl : j = n := by omega
          cases hlj : listed.getD j false with
          | true => rfl
          | false =>
            exfalso
            have : j ∈ Region.ready .any ops listed := mem_ready.2 ⟨by
              have hj' : j < listed.size := by omega
              simpa [Array.getD, hj'] using hlj, ops[j], Array.getElem?_eq_getElem hjs, fun e he hb => ih e.on (hs1 j _ (Array.getElem?_eq_getElem hjs) e he hb) (by have := hs1 j _ (Array.getElem?_eq_getElem hjs) e he hb; omega)⟩
            rw [hr] at this
            cases this
    have hat := wpRgd_at hg hR hlen h0 x ops.size (Nat.le_refl _) fun j hj => ⟨w, hw, hx j hj (hall _ j hj hj)⟩
    rw [List.drop_of_length_le (by simp), List.drop_of_length_le (by omega)] at hat
    have hq := hat w hw fun j x' W hxW => by
      obtain ⟨hj, rfl, rfl⟩ := envD_get hxW
      exact hx j hj (hall _ j hj hj)
    have he : a = lexA ops a0 x ops.size := Laid.same hL ((lexA_laid hg a0 x ops.size (Nat.le_refl _)).congr fun j hj => by simp only [hj, if_true, hall _ j hj hj])
    rw [he]
    exact hQ _ _ hq
  intro fuel
  induction fuel with
  | zero =>
    intro listed a w x hsz hw hC hL hx hcl hf
    have hr : Region.ready .any ops listed = [] := by
      rw [List.eq_nil_iff_forall_not_mem]
      intro i hi
      obtain ⟨h1, o, ho, _⟩ := mem_ready.1 hi
      have : i ∈ (List.range ops.size).filter fun j => !listed.getD j true := List.mem_filter.2 ⟨List.mem_range.2 (hlt ho), by rw [h1]; rfl⟩
      have hz : ((List.range ops.size).filter fun j => !listed.getD j true) = [] := List.eq_nil_of_length_eq_zero (by unfold unl at hf; omega)
      rw [hz] at this
      cases this
    exact ⟨hr, hend listed a w x hsz hw hL hx hr⟩
  | succ fuel ih =>
    intro listed a w x hsz hw hC hL hx hcl hf
    refine ⟨fun hr => hend listed a w x hsz hw hL hx hr, fun i hi => ?_⟩
    obtain ⟨hi1, o, ho, hdeps⟩ := mem_ready.1 hi
    have hin := hlt ho
    have hi2 := getD_of hi1
    have eV : dpAt Ds i = Ds[i]'(by omega) := by unfold dpAt; simp [List.getD, List.getElem?_eq_getElem (show i < Ds.length by omega)]
    obtain ⟨y, w', hE', hyx, hy, _⟩ := rgd_prefix hg hR hlen h0 hw (L := fun j => listed.getD j false) hx hcl hC i (by omega)
    have hat := wpRgd_at hg hR hlen h0 y i (by omega) fun j hj => ⟨w', hE', hy j (by omega) (.inr hj)⟩
    have hk1 : i < ops.toList.length := by rw [Array.length_toList]; omega
    have hk2 : i < Ds.length := by omega
    rw [List.drop_eq_getElem_cons (l := ops.toList) hk1, List.drop_eq_getElem_cons (l := Ds) hk2] at hat
    have eo : ops.toList[i]'(by simpa using hin) = o := by
      have := Array.getElem?_eq_getElem hin
      rw [ho] at this
      simpa using (Option.some.inj this).symm
    rw [eo, ← eV] at hat
    have dep := dep_at (y := y) hg hR (show i < ops.size from hin)
    have dep2 : dpAt Ds i y = dpAt Ds i x := hR.D i hin _ _ fun j hj => by
      obtain ⟨e, he, rfl, hbd⟩ := (waits_iff ho).1 hj
      exact hyx _ (hdeps e he hbd)
    have hlex := lexA_laid hg a0 y i (by omega)
    have hag : ∀ t ∈ o.looksAt ops, a.tmps[t]? = (lexA ops a0 y i).tmps[t]? := by
      intro t ht
      by_cases hj : ∃ j, j < ops.size ∧ dstOf ops j = some t
      · obtain ⟨j, hjn, hjd⟩ := hj
        have only : ∀ j', j' < ops.size → dstOf ops j' = some t → j' = j := fun j' h1 h2 => hs2 j' j t h1 hjn h2 hjd
        have hother : (listed.getD j false = false) → i ≤ j → a.tmps[t]? = (lexA ops a0 y i).tmps[t]? := fun h1 h2 => by
          rw [hL.off t fun j' hj' hd' => by rw [only j' hj' hd', h1]; rfl, hlex.off t fun j' hj' hd' => by
            rw [only j' hj' hd']
            have : ¬ j < i := by omega
            simp [this]]
        rcases hs3 i j o t ho hjn hjd ht with h | h | h
        · obtain ⟨e, he, rfl, hbd⟩ := (waits_iff ho).1 h
          have hl := hdeps e he hbd
          have hji := hs1 i o ho e he hbd
          rw [hL.put e.on t (x e.on) hjn hjd (by rw [hl]; rfl), hlex.put e.on t (y e.on) hjn hjd (by simp [hji]), hyx e.on hl]
        · obtain ⟨e, he, rfl, hbd⟩ := (waits_iff (Array.getElem?_eq_getElem hjn)).1 h
          have hlt2 := hs1 j _ (Array.getElem?_eq_getElem hjn) e he hbd
          refine hother ?_ (by omega)
          cases hlj : listed.getD j false with
          | false => rfl
          | true =>
            have := hcl j _ (Array.getElem?_eq_getElem hjn) hlj e he hbd
            rw [hi2] at this
            cases this
        · subst h
          exact hother hi2 (Nat.le_refl _)
      · rw [hL.off t fun j hjn hjd => absurd ⟨j, hjn, hjd⟩ hj, hlex.off t fun j hjn hjd => absurd ⟨j, hjn, hjd⟩ hj]
    obtain ⟨hex, hwant⟩ := exec_agree (ops := ops) (hs4 i o · · ho) hag
    have hnext : ∀ v w2, (w2 = w ∨ R.S i w w2) → dpAt Ds i x v w2 → wpAny P .any ops Q' fuel (listed.setIfInBounds i true) (a.put o.dst v) w2 := by
      intro v w2 hst hv
      have hset : ∀ j, (listed.setIfInBounds i true).getD j false = if j = i then true else listed.getD j false := fun j => by
        by_cases hji : j = i
        · subst hji
          have : j < listed.size := by omega
          simp [Array.getD, this]
        · rw [getD_set_ne false (fun e => hji e.symm)]
          simp [hji]
      refine ih _ _ _ (fun j => if j = i then v else x j) (by simpa using hsz) ?_ ?_ ?_ ?_ ?_ ?_
      · rcases hst with rfl | hst
        · exact hw
        · exact hR.E i hin _ _ hst hw
      · intro j hj hlj
        rw [hset] at hlj
        by_cases hji : j = i
        · simp [hji] at hlj
        · simp only [hji, if_false] at hlj
          have h4 := hC j hj hlj
          rcases hst with rfl | hst
          · exact h4
          · refine hR.C i j hin hj (fun e => hji e.symm) ?_ _ _ hst h4
            cases hwt : waits ops i j with
            | false => rfl
            | true =>
              obtain ⟨e, he, rfl, hbd⟩ := (waits_iff ho).1 hwt
              have := hdeps e he hbd
              rw [hlj] at this
              cases this
      · refine (hL.next hg ho (by rw [hi2]; rfl) v).congr fun j hj => ?_
        rw [hset]
        by_cases hji : j = i <;> simp [hji]
      · intro j hj hlj
        rw [hset] at hlj
        have ed : waits ops j i = false → dpAt Ds j (fun j => if j = i then v else x j) = dpAt Ds j x := fun hw => hR.D j hj _ _ fun q hq => by
          have : q ≠ i := fun e => by subst e; rw [hw] at hq; cases hq
          simp [this]
        by_cases hji : j = i
        · subst hji
          rw [ed (by
            cases hwt : waits ops j j with
            | false => rfl
            | true => exact absurd (waits_lt hg hj hwt) (by omega))]
          simpa using hv
        · simp only [hji, if_false] at hlj
          have hwt : waits ops j i = false := by
            cases hwt : waits ops j i with
            | false => rfl
            | true =>
              obtain ⟨e, he, he2, hbd⟩ := (waits_iff (Array.getElem?_eq_getElem hj)).1 hwt
              have := hcl j _ (Array.getElem?_eq_getElem hj) hlj e he hbd
              rw [he2, hi2] at this
              cases this
          rw [ed hwt]
          simp only [hji, if_false]
          have h4 := hx j hj hlj
          rcases hst with rfl | hst
          · exact h4
          · exact hR.V i j hin hj (fun e => hji e.symm) hwt _ _ _ _ hst h4
      · intro k ok hok hlk e he hbd
        rw [hset] at hlk ⊢
        by_cases hki : k = i
        · subst hki
          obtain rfl : ok = o := by rw [ho] at hok; exact (Option.some.inj hok).symm
          have := hdeps e he hbd
          by_cases h' : e.on = k <;> simp [h', this]
        · simp only [hki, if_false] at hlk
          have := hcl k ok hok hlk e he hbd
          by_cases h' : e.on = i <;> simp [h', this]
      · have : unl ops.size (listed.setIfInBounds i true) < unl ops.size listed := by
          refine len_filter_lt (List.range ops.size) (fun j _ hq => ?_) i (List.mem_range.2 hin) (by rw [hi1]; rfl) ?_
          · by_cases hji : j = i
            · subst hji; rw [hi1]; rfl
            · rwa [getD_set_ne true (fun e => hji e.symm)] at hq
          · have : i < listed.size := by omega
            simp [Array.getD, this]
        omega
    unfold wpOp
    simp only [ho]
    rw [hwant]
    have h1 := hat.1
    rw [envD_len] at h1
    have hci := hC i hin hi2
    split
    · rename_i hwt
      rw [if_pos hwt] at h1
      refine .inl (wp_of_steps (S := R.S i) (V := dpAt Ds i x) ?_ fun v w2 hb2 hv => hnext v w2 (.inr hb2) hv)
      unfold steps
      rw [hex, ← dep2, ← dep]
      exact h1 w hci fun e he hbd x' W hxW => by
        obtain ⟨hlt2, rfl, rfl⟩ := envD_get hxW
        have hl := hdeps e he hbd
        rw [hyx _ hl, hR.D e.on (by omega) y x fun q hq => by
          obtain ⟨e', he', rfl, hbd'⟩ := (waits_iff (Array.getElem?_eq_getElem (show e.on < ops.size by omega))).1 hq
          exact hyx _ (hcl _ _ (Array.getElem?_eq_getElem (show e.on < ops.size by omega)) hl e' he' hbd')]
        exact hx _ (by omega) hl
    · rename_i hwt
      rw [if_neg hwt] at h1
      exact hnext undef w (.inl rfl) (by rw [← dep2, ← dep]; exact h1 w hci)

/-- **ONE WALK IN THE ORDER OF THE TEXT SERVES EVERY ORDER.** -/
theorem wp_region_rgd {id : Nat} {Q' : Exit → Act → World → Prop} {w0 : World} (l : List Oper) (hm : P.follows .mixedOrders = true) (hg : growB l.toArray = true) (hR : R.OkD l.toArray Ds) (hlen : Ds.length = l.length)
    (hE : R.E w0.drew) (hC : ∀ j, j < l.toArray.size → R.C j w0.drew)
    (h0 : wpRgd P l.toArray R (fun a w => Q' .normal a w) l Ds [] a0) : (Code.region id l.toArray true).wp P Q' a0 w0 := by
  have hno : ∀ j, (Array.replicate l.toArray.size false).getD j false = false := fun j => by unfold Array.getD; split <;> simp
  refine wp_region_any hm (wpRgd_any (Q := fun a w => Q' .normal a w) hg hR (by simpa using hlen) (by simpa using h0) (fun a w h => h) _ _ _ _ (fun _ => undef) (by simp) hE (fun j hj _ => hC j hj) ?_ ?_ ?_ ?_)
  · refine (Laid.start a0).congr fun j hj => ?_
    rw [hno]
    rfl
  · intro j hj h
    rw [hno] at h
    cases h
  · intro i o ho h
    rw [hno] at h
    cases h
  · unfold unl
    exact Nat.le_trans (List.length_filter_le _ _) (by simp)
end
end Go.Proofs.YthbhkdhljlganaaGreatDoor

namespace Go.Proofs.YthbhkdhljlganaaGreatDoor
open Go Go.RowKit
set_option linter.unusedVariables false
set_option linter.unusedSimpArgs false

/-- Operation i does T, which turns none but the blocks F (and makes new ones). -/
structure TrP where
  i : Nat
  F : Nat → Prop
  T : World → World → Prop
  ok : ∀ w w', T w w' → Turn F w w'
def TrP.of (i : Nat) (F : Nat → Prop) : TrP := ⟨i, F, Turn F, fun _ _ h => h⟩
def trnS (st : List TrP) (i : Nat) : World → World → Prop := fun w w' => match st.find? (fun p => p.i == i) with
  | some p => p.T w w'
  | none => Below w.heap.size w w'
def trX (ops : Array Oper) (st : List TrP) (j : Nat) : Nat → Prop := fun b => ∃ p ∈ st, p.i ≠ j ∧ waits ops p.i j = false ∧ p.F b
def trE (st : List TrP) : Nat → Prop := fun b => ∃ p ∈ st, p.F b
def trR (ops : Array Oper) (st : List TrP) (w0 : World) : RegFr := ⟨trnS st, fun j => Turn (trX ops st j) w0, Turn (trE st) w0⟩
theorem trX_E {ops : Array Oper} {st : List TrP} {j : Nat} (b : Nat) (h : trX ops st j b) : trE st b := by
  obtain ⟨p, h1, _, _, h2⟩ := h
  exact ⟨p, h1, h2⟩
def TStays (T : World → World → Prop) (V : VP) : Prop := ∀ v w w', T w w' → V v w → V v w'
def AllTr (ops : Array Oper) (st : List TrP) : Nat → List VP → Prop
  | _, [] => True
  | j, V :: Vs => (Stays V ∧ ∀ p ∈ st, p.i ≠ j → waits ops j p.i = false → TStays p.T V) ∧ AllTr ops st (j + 1) Vs
theorem allTr {ops : Array Oper} {st : List TrP} : ∀ {Vs : List VP} {n : Nat}, AllTr ops st n Vs → ∀ j, j < Vs.length → Stays (vAt Vs j) ∧ ∀ p ∈ st, p.i ≠ n + j → waits ops (n + j) p.i = false → TStays p.T (vAt Vs j)
  | V :: Vs, n, h, 0, _ => h.1
  | V :: Vs, n, h, j + 1, hj => by
    have := allTr h.2 j (by simp only [List.length_cons] at hj; omega)
    rw [show n + 1 + j = n + (j + 1) from by omega] at this
    exact this
theorem tr_find {st : List TrP} {i : Nat} {p : TrP} (h : st.find? (fun p => p.i == i) = some p) : p ∈ st ∧ p.i = i := by
  have h1 := List.find?_some h
  exact ⟨List.mem_of_find?_eq_some h, by simpa using h1⟩
section
variable {P : Program} {ops : Array Oper} {st : List TrP} {w0 : World}
theorem trR_ok {Vs : List VP} (hlen : Vs.length = ops.size) (h : AllTr ops st 0 Vs) : (trR ops st w0).Ok ops Vs := by
  refine ⟨fun i j hi hj hne hwt x w w' hS hv => ?_, fun i j hi hj hne hwt w w' hS hC => ?_, fun i hi w w' hS hE => ?_⟩
  · have h1 := allTr h j (by omega)
    rw [Nat.zero_add] at h1
    simp only [trR, trnS] at hS
    split at hS
    · rename_i p hp
      obtain ⟨hm, rfl⟩ := tr_find hp
      exact h1.2 p hm hne hwt x w w' hS hv
    · exact h1.1 x w w' hS hv
  · simp only [trR, trnS] at hS hC ⊢
    split at hS
    · rename_i p hp
      obtain ⟨hm, rfl⟩ := tr_find hp
      exact hC.trans (p.ok _ _ hS) fun b hb => .inl ⟨p, hm, hne, hwt, hb⟩
    · exact hC.trans (Turn.of_below (F := trX ops st j) hS) fun b hb => .inl hb
  · simp only [trR, trnS] at hS hE ⊢
    split at hS
    · rename_i p hp
      obtain ⟨hm, rfl⟩ := tr_find hp
      exact hE.trans (p.ok _ _ hS) fun b hb => .inl ⟨p, hm, hb⟩
    · exact hE.trans (Turn.of_below (F := trE st) hS) fun b hb => .inl hb
theorem wp_region_tr {id : Nat} {Q' : Exit → Act → World → Prop} {l : List Oper} {a0 : Act} (st : List TrP) (hm : P.follows .mixedOrders = true) (hg : growB l.toArray = true)
    (h : ∃ Vs, wpReg P l.toArray (trR l.toArray st w0) (fun a w => Q' .normal a w) l Vs [] a0 ∧ AllTr l.toArray st 0 Vs ∧ Vs.length = l.length) : (Code.region id l.toArray true).wp P Q' a0 w0 := by
  obtain ⟨Vs, h0, hS, hlen⟩ := h
  exact wp_region_reg l hm hg (trR_ok (by simpa using hlen) hS) hlen ((Turn.refl _ _).drew) (fun _ _ => (Turn.refl _ _).drew) h0

variable {Q : Act → World → Prop} {a : Act} {o : Oper} {rest : List Oper} {Vs : List VP} {env : List (Value × VP)}
theorem wpTr_rel {V : VP} (hw : Region.wanted o (yielded ops a.tmps) = true) (hs : st.find? (fun p => p.i == env.length) = none)
    (h1 : ∀ w, Turn (trE st) w0 w → (∀ e ∈ o.after, Region.binds .any e = true → ∀ (x : Value) (W : VP), env[e.on]? = some (x, W) → W x w) → grows P o a w V)
    (h2 : ∀ x, (∃ w, Turn (trE st) w0 w ∧ V x w) → ∀ K : Act → Prop, (∀ a', wpReg P ops (trR ops st w0) Q rest Vs (env ++ [(x, V)]) a' → K a') → K (a.put o.dst x)) : wpReg P ops (trR ops st w0) Q (o :: rest) (V :: Vs) env a := by
  refine ⟨?_, fun x hx => h2 x hx _ fun _ h => h⟩
  rw [if_pos hw]
  intro w hC hf
  have h3 := h1 w (Turn.mono hC fun b hb _ => trX_E b hb) hf
  have eS : (trR ops st w0).S env.length = fun w w' => Below w.heap.size w w' := by funext w w'; simp only [trR, trnS, hs]
  rw [eS]
  unfold grows at h3
  unfold steps
  revert h3
  cases (execOp a.eval o).run P w with
  | ok n w' =>
    cases n <;> simp only [growsUpon, stepsUpon] <;> first | exact fun h => h | exact fun h => h.2.mono fun e w'' ⟨v, he, hb, hv⟩ => ⟨v, he, grow_trans h.1 hb, hv⟩
  | halt x w' => simp only [growsUpon, stepsUpon]; exact fun h => h
theorem wpTr_is {c : Value} (hw : Region.wanted o (yielded ops a.tmps) = true) (hs : st.find? (fun p => p.i == env.length) = none)
    (h1 : ∀ w, Turn (trE st) w0 w → (∀ e ∈ o.after, Region.binds .any e = true → ∀ (x : Value) (W : VP), env[e.on]? = some (x, W) → W x w) → grows P o a w (Is c))
    (h2 : ∀ K : Act → Prop, (∀ a', wpReg P ops (trR ops st w0) Q rest Vs (env ++ [(c, Is c)]) a' → K a') → K (a.put o.dst c)) : wpReg P ops (trR ops st w0) Q (o :: rest) (Is c :: Vs) env a :=
  wpTr_rel hw hs h1 fun x ⟨_, _, hx⟩ => by
    obtain rfl : x = c := hx
    exact h2
theorem wpTr_skip (hw : Region.wanted o (yielded ops a.tmps) = false) (h2 : ∀ K : Act → Prop, (∀ a', wpReg P ops (trR ops st w0) Q rest Vs (env ++ [(undef, Is undef)]) a' → K a') → K (a.put o.dst undef)) : wpReg P ops (trR ops st w0) Q (o :: rest) (Is undef :: Vs) env a := by
  refine ⟨by rw [if_neg (by rw [hw]; simp)]; exact fun _ _ => rfl, fun x ⟨w, _, hx⟩ => ?_⟩
  obtain rfl : x = undef := hx
  exact h2 _ fun _ h => h
/-- An operation that turns blocks. -/
theorem wpTr_turn {V : VP} (p : TrP) (hw : Region.wanted o (yielded ops a.tmps) = true) (hs : st.find? (fun p => p.i == env.length) = some p)
    (h1 : ∀ w, Turn (trX ops st env.length) w0 w → (∀ e ∈ o.after, Region.binds .any e = true → ∀ (x : Value) (W : VP), env[e.on]? = some (x, W) → W x w) → steps P o a w p.T V)
    (h2 : ∀ x, (∃ w, Turn (trE st) w0 w ∧ V x w) → ∀ K : Act → Prop, (∀ a', wpReg P ops (trR ops st w0) Q rest Vs (env ++ [(x, V)]) a' → K a') → K (a.put o.dst x)) : wpReg P ops (trR ops st w0) Q (o :: rest) (V :: Vs) env a := by
  refine ⟨?_, fun x hx => h2 x hx _ fun _ h => h⟩
  rw [if_pos hw]
  intro w hC hf
  have eS : (trR ops st w0).S env.length = p.T := by funext w w'; simp only [trR, trnS, hs]
  rw [eS]
  exact h1 w hC hf
theorem wpTr_end (h : ∀ w, Turn (trE st) w0 w → (∀ (j : Nat) (x : Value) (W : VP), env[j]? = some (x, W) → W x w) → Q a w) : wpReg P ops (trR ops st w0) Q [] [] env a := h
theorem Is.tstays (c : Value) (T : World → World → Prop) : TStays T (Is c) := fun _ _ _ _ h => h
theorem okTr (c : Value) (j : Nat) : Stays (Is c) ∧ ∀ p ∈ st, p.i ≠ j → waits ops j p.i = false → TStays p.T (Is c) := ⟨Stays.is c, fun p _ _ _ => Is.tstays c p.T⟩
end
theorem okTr2 {ops : Array Oper} {p q : TrP} {j : Nat} {V : VP} (hS : Stays V) (h1 : p.i = j ∨ waits ops j p.i = true ∨ TStays p.T V) (h2 : q.i = j ∨ waits ops j q.i = true ∨ TStays q.T V) : Stays V ∧ ∀ r ∈ [p, q], r.i ≠ j → waits ops j r.i = false → TStays r.T V :=
  ⟨hS, fun r hr hne hw => by
    rcases List.mem_cons.1 hr with rfl | hr
    · exact (h1.resolve_left hne).resolve_left (by rw [hw]; simp)
    · obtain rfl := List.mem_singleton.1 hr
      exact (h2.resolve_left hne).resolve_left (by rw [hw]; simp)⟩
theorem trX2a {ops : Array Oper} {p q : TrP} {j b : Nat} (h : trX ops [p, q] j b) (hp : p.i = j) : q.F b := by
  obtain ⟨r, hr, hne, _, hF⟩ := h
  rcases List.mem_cons.1 hr with rfl | hr
  · exact absurd hp hne
  · obtain rfl := List.mem_singleton.1 hr
    exact hF
theorem trX2b {ops : Array Oper} {p q : TrP} {j b : Nat} (h : trX ops [p, q] j b) (hq : q.i = j) : p.F b := by
  obtain ⟨r, hr, hne, _, hF⟩ := h
  rcases List.mem_cons.1 hr with rfl | hr
  · exact hF
  · obtain rfl := List.mem_singleton.1 hr
    exact absurd hq hne
theorem trE1 {p : TrP} {b : Nat} : trE [p] b ↔ p.F b := by simp [trE]
theorem trE2 {p q : TrP} {b : Nat} : trE [p, q] b ↔ p.F b ∨ q.F b := by simp [trE]
section
variable {F : Nat → Prop} {w w' : World}
theorem Turn.cell (h : Turn F w w') {b k : Nat} {v : Value} (hc : w.cell? ⟨b, k, none⟩ = some v) (hF : ¬ F b) : w'.cell? ⟨b, k, none⟩ = some v :=
  (World.cell?_of_block (a := ⟨b, k, none⟩) (h.block b (World.block_lt_of_cell? w ⟨b, k, none⟩ hc) hF)).trans hc
theorem own_turn {B n size : Nat} {e : TypeId} {v : Value} {xs : List Value} (h : w.ownsRow B e size v n xs) (k : Turn F w w') (hF : ∀ g, v.ownBlock = some g → ¬ F g) : w'.ownsRow B e size v n xs := by
  refine ⟨h.1, ?_⟩
  rcases h.2 with h2 | ⟨g, cap, cur, hv, hg, hh, r⟩
  · exact .inl h2
  · exact .inr ⟨g, cap, cur, hv, hg, (k.block g (lt_of_block hh) (hF g (by rw [hv]; rfl))).trans hh, r⟩
/-- A row that an append has given: in the old block or in a new one. -/
def VRow (B : Nat) (e : TypeId) (size n : Nat) (xs : List Value) (ob : Option Nat) (s0 : Nat) : VP := fun v w => (∃ A c, v = .slice A n c) ∧ w.ownsRow B e size v n xs ∧ (v.ownBlock = ob ∨ ∃ g, v.ownBlock = some g ∧ s0 ≤ g)
theorem VRow.stays {B : Nat} {e : TypeId} {size n : Nat} {xs : List Value} {ob : Option Nat} {s0 : Nat} : Stays (VRow B e size n xs ob s0) := fun v w w' hb h => ⟨h.1, own_turn h.2.1 (Turn.of_below (F := fun _ => False) hb) (fun _ _ => id), h.2.2⟩
theorem VRow.tstays {B : Nat} {e : TypeId} {size n : Nat} {xs : List Value} {ob : Option Nat} {s0 : Nat} (h0 : ∀ g, ob = some g → ¬ F g) (h1 : ∀ g, F g → g < s0) : TStays (Turn F) (VRow B e size n xs ob s0) := fun v w w' hT h =>
  ⟨h.1, own_turn h.2.1 hT fun g hg hF => by
    rcases h.2.2 with h2 | ⟨g', h2, h3⟩
    · exact h0 g (h2 ▸ hg) hF
    · rw [hg] at h2
      injection h2 with h2
      have := h1 g hF
      omega, h.2.2⟩
/-- Cells that were made new. -/
def VSl (s0 size n : Nat) (xs : List Value) : VP := fun v w => (∃ A k c, v = .slice A k c) ∧ Sl (fun b => s0 ≤ b ∧ b < w.heap.size) w size v n xs
theorem VSl.stays {s0 size n : Nat} {xs : List Value} : Stays (VSl s0 size n xs) := fun v w w' hb h => ⟨h.1, (Sl.below h.2 hb fun b h => h.2).more fun b h => ⟨h.1, Nat.lt_of_lt_of_le h.2 hb.size⟩⟩
theorem VSl.tstays {s0 size n : Nat} {xs : List Value} (h1 : ∀ g, F g → g < s0) : TStays (Turn F) (VSl s0 size n xs) := fun v w w' hT h =>
  ⟨h.1, (Sl.keep h.2 fun b o hb => World.cell?_of_block (hT.block b hb.2 fun hF => by have := h1 b hF; omega)).more fun b h => ⟨h.1, Nat.lt_of_lt_of_le h.2 hT.size⟩⟩
theorem steps_append {P : Program} {o : Oper} {a : Act} {s x : Operand} {t e : TypeId} {z : Value} {size bytes : Nat} (E : Elem P t e z size bytes) (ho : o.op = .call { callee := .builtin .append, args := #[s, x], argTypes := #[t, t] })
    {B : Nat} {v : Value} {n : Nat} {xs : List Value} (hown : w.ownsRow B e size v n xs) {S : Nat → Prop} {u : Value} {m : Nat} {news : List Value} (hr : Sl S w size u m news) (hs : a.eval s = v) (hx : a.eval x = u) (h1 : ∀ y ∈ news, y.oneCell' = true)
    (hlen : n + m ≤ maxLen) (hbytes : (n + m) * bytes ≤ 140737488355328) (hB : B ≤ w.heap.size) {s0 : Nat} (h0 : s0 ≤ w.heap.size) : steps P o a w (Turn fun b => v.ownBlock = some b) (VRow B e size (n + m) (xs ++ news) v.ownBlock s0) := by
  obtain ⟨v', w', hrun, h2, h3, h4⟩ := run_append_sl (P := P) w E o.type hown hr h1 hlen hbytes hB
  obtain ⟨A, k, c, rfl⟩ := own_slice h2
  obtain rfl := own_len h2
  unfold steps execOp
  simp only [ho, resolve, invoke, builtin, Sem.run_bind, Sem.run_pure, Result.andThen_ok, List.map_toArray, List.map_cons, List.map_nil, hs, hx, hrun, stepsUpon]
  refine ⟨Turn.of_grown h3 fun z hz => hz, ⟨A, c, rfl⟩, h2, ?_⟩
  rcases h4 with h4 | h4
  · exact .inl h4
  · exact .inr ⟨_, h4, h0⟩
end
end Go.Proofs.YthbhkdhljlganaaGreatDoor

namespace Go.Proofs.YthbhkdhljlganaaGreatDoor
open Go Go.RowKit
set_option linter.unusedVariables false
set_option linter.unusedSimpArgs false

def DIs (c : Value) : DP := fun _ => Is c
def DV (V : VP) : DP := fun _ => V
def okD (ops : Array Oper) (st : List TrP) (j : Nat) (D : DP) : Prop :=
  (∀ y, Stays (D y)) ∧ (∀ p ∈ st, p.i ≠ j → waits ops j p.i = false → ∀ y, TStays p.T (D y)) ∧ ∀ y y' : Nat → Value, (∀ i, waits ops j i = true → y i = y' i) → D y = D y'
def AllTd (ops : Array Oper) (st : List TrP) : Nat → List DP → Prop
  | _, [] => True
  | j, D :: Ds => okD ops st j D ∧ AllTd ops st (j + 1) Ds
theorem allTd {ops : Array Oper} {st : List TrP} : ∀ {Ds : List DP} {n : Nat}, AllTd ops st n Ds → ∀ j, j < Ds.length → okD ops st (n + j) (dpAt Ds j)
  | D :: Ds, n, h, 0, _ => h.1
  | D :: Ds, n, h, j + 1, hj => by
    have := allTd h.2 j (by simp only [List.length_cons] at hj; omega)
    rw [show n + 1 + j = n + (j + 1) from by omega] at this
    exact this
section
variable {P : Program} {ops : Array Oper} {st : List TrP} {w0 : World}
theorem trR_okD {Ds : List DP} (hlen : Ds.length = ops.size) (h : AllTd ops st 0 Ds) : (trR ops st w0).OkD ops Ds := by
  have h0 := trR_ok (ops := ops) (st := st) (w0 := w0) (Vs := List.replicate ops.size (Is undef)) (by simp) (by
    have : ∀ n k, AllTr ops st k (List.replicate n (Is undef)) := by
      intro n
      induction n with
      | zero => exact fun _ => trivial
      | succ n ih => exact fun k => ⟨okTr _ _, ih _⟩
    exact this _ _)
  refine ⟨fun i j hi hj hne hwt y x w w' hS hv => ?_, h0.C, h0.E, fun j hj y y' hy => ?_⟩
  · have h1 := allTd h j (by omega)
    rw [Nat.zero_add] at h1
    simp only [trR, trnS] at hS
    split at hS
    · rename_i p hp
      obtain ⟨hm, rfl⟩ := tr_find hp
      exact h1.2.1 p hm hne hwt y x w w' hS hv
    · exact h1.1 y x w w' hS hv
  · have h1 := allTd h j (by omega)
    rw [Nat.zero_add] at h1
    exact h1.2.2 y y' hy
theorem wp_region_td {id : Nat} {Q' : Exit → Act → World → Prop} {l : List Oper} {a0 : Act} (st : List TrP) (hm : P.follows .mixedOrders = true) (hg : growB l.toArray = true)
    (h : ∃ Ds, wpRgd P l.toArray (trR l.toArray st w0) (fun a w => Q' .normal a w) l Ds [] a0 ∧ AllTd l.toArray st 0 Ds ∧ Ds.length = l.length) : (Code.region id l.toArray true).wp P Q' a0 w0 := by
  obtain ⟨Ds, h0, hS, hlen⟩ := h
  exact wp_region_rgd l hm hg (trR_okD (by simpa using hlen) hS) hlen ((Turn.refl _ _).drew) (fun _ _ => (Turn.refl _ _).drew) h0

variable {Q : Act → World → Prop} {a : Act} {o : Oper} {rest : List Oper} {Ds : List DP} {env : List (Value × VP)}
theorem wpTd_rel {D : DP} (hw : Region.wanted o (yielded ops a.tmps) = true) (hs : st.find? (fun p => p.i == env.length) = none)
    (h1 : ∀ w, Turn (trE st) w0 w → (∀ e ∈ o.after, Region.binds .any e = true → ∀ (x : Value) (W : VP), env[e.on]? = some (x, W) → W x w) → grows P o a w (D (yOf env)))
    (h2 : ∀ x, (∃ w, Turn (trE st) w0 w ∧ D (yOf env) x w) → ∀ K : Act → Prop, (∀ a', wpRgd P ops (trR ops st w0) Q rest Ds (env ++ [(x, D (yOf env))]) a' → K a') → K (a.put o.dst x)) : wpRgd P ops (trR ops st w0) Q (o :: rest) (D :: Ds) env a := by
  refine ⟨?_, fun x hx => h2 x hx _ fun _ h => h⟩
  rw [if_pos hw]
  intro w hC hf
  have h3 := h1 w (Turn.mono hC fun b hb _ => trX_E b hb) hf
  have eS : (trR ops st w0).S env.length = fun w w' => Below w.heap.size w w' := by funext w w'; simp only [trR, trnS, hs]
  rw [eS]
  unfold grows at h3
  unfold steps
  revert h3
  cases (execOp a.eval o).run P w with
  | ok n w' =>
    cases n <;> simp only [growsUpon, stepsUpon] <;> first | exact fun h => h | exact fun h => h.2.mono fun e w'' ⟨v, he, hb, hv⟩ => ⟨v, he, grow_trans h.1 hb, hv⟩
  | halt x w' => simp only [growsUpon, stepsUpon]; exact fun h => h
theorem wpTd_is {c : Value} (hw : Region.wanted o (yielded ops a.tmps) = true) (hs : st.find? (fun p => p.i == env.length) = none)
    (h1 : ∀ w, Turn (trE st) w0 w → (∀ e ∈ o.after, Region.binds .any e = true → ∀ (x : Value) (W : VP), env[e.on]? = some (x, W) → W x w) → grows P o a w (Is c))
    (h2 : ∀ K : Act → Prop, (∀ a', wpRgd P ops (trR ops st w0) Q rest Ds (env ++ [(c, Is c)]) a' → K a') → K (a.put o.dst c)) : wpRgd P ops (trR ops st w0) Q (o :: rest) (DIs c :: Ds) env a :=
  wpTd_rel (D := DIs c) hw hs h1 fun x ⟨_, _, hx⟩ => by
    obtain rfl : x = c := hx
    exact h2
theorem wpTd_v {V : VP} (hw : Region.wanted o (yielded ops a.tmps) = true) (hs : st.find? (fun p => p.i == env.length) = none)
    (h1 : ∀ w, Turn (trE st) w0 w → (∀ e ∈ o.after, Region.binds .any e = true → ∀ (x : Value) (W : VP), env[e.on]? = some (x, W) → W x w) → grows P o a w V)
    (h2 : ∀ x, (∃ w, Turn (trE st) w0 w ∧ V x w) → ∀ K : Act → Prop, (∀ a', wpRgd P ops (trR ops st w0) Q rest Ds (env ++ [(x, V)]) a' → K a') → K (a.put o.dst x)) : wpRgd P ops (trR ops st w0) Q (o :: rest) (DV V :: Ds) env a :=
  wpTd_rel (D := DV V) hw hs h1 h2
theorem wpTd_skip (hw : Region.wanted o (yielded ops a.tmps) = false) (h2 : ∀ K : Act → Prop, (∀ a', wpRgd P ops (trR ops st w0) Q rest Ds (env ++ [(undef, Is undef)]) a' → K a') → K (a.put o.dst undef)) : wpRgd P ops (trR ops st w0) Q (o :: rest) (DIs undef :: Ds) env a := by
  refine ⟨by rw [if_neg (by rw [hw]; simp)]; exact fun _ _ => rfl, fun x ⟨w, _, hx⟩ => ?_⟩
  obtain rfl : x = undef := hx
  exact h2 _ fun _ h => h
theorem wpTd_end (h : ∀ w, Turn (trE st) w0 w → (∀ (j : Nat) (x : Value) (W : VP), env[j]? = some (x, W) → W x w) → Q a w) : wpRgd P ops (trR ops st w0) Q [] [] env a := h
theorem okD_is (c : Value) (j : Nat) : okD ops st j (DIs c) := ⟨fun _ => Stays.is c, fun p _ _ _ _ => Is.tstays c p.T, fun _ _ _ => rfl⟩
theorem okD_v {V : VP} {j : Nat} (h1 : Stays V) (h2 : ∀ p ∈ st, p.i ≠ j → waits ops j p.i = false → TStays p.T V) : okD ops st j (DV V) := ⟨fun _ => h1, fun p hp hn hw _ => h2 p hp hn hw, fun _ _ _ => rfl⟩

/-! ### A variable that is made within the region, and stored into -/
/-- A new block of type t is written over. -/
def PutNew (t : TypeId) (s0 : Nat) (w w' : World) : Prop := ∃ g cs cs', s0 ≤ g ∧ Blk w g t cs ∧ cs'.size = cs.size ∧ w' = w.setRow g cs'
theorem PutNew.turn {t : TypeId} {s0 : Nat} {w w' : World} (h : PutNew t s0 w w') : Turn (fun b => s0 ≤ b) w w' := by
  obtain ⟨g, cs, cs', h0, h1, h2, rfl⟩ := h
  exact ⟨rfl, rfl, rfl, by rw [size_setRow]; exact Nat.le_refl _, fun b hb hn => heap_setRow w g cs' b (fun e => hn (by omega))⟩
def TrP.new (i : Nat) (t : TypeId) (s0 : Nat) : TrP := ⟨i, fun b => s0 ≤ b, PutNew t s0, fun _ _ h => h.turn⟩
/-- A variable made within the region: n cells. -/
def VNew (t : TypeId) (n s0 : Nat) : VP := fun v w => ∃ g, v = .pointer (some ⟨g, 0, none⟩) ∧ s0 ≤ g ∧ ∃ cs, Blk w g t cs ∧ cs.size = n
theorem VNew.stays {t : TypeId} {n s0 : Nat} : Stays (VNew t n s0) := fun v w w' hb ⟨g, h1, h2, cs, h3, h4⟩ => ⟨g, h1, h2, cs, h3.later hb, h4⟩
theorem VNew.put {t t' : TypeId} {n s0 s1 : Nat} : TStays (PutNew t' s1) (VNew t n s0) := fun v w w' ⟨g', ds, ds', h5, h6, h7, e⟩ ⟨g, h1, h2, cs, h3, h4⟩ => by
  subst e
  by_cases hg : g = g'
  · subst hg
    obtain ⟨rfl, rfl⟩ := Blk.same h3 h6
    exact ⟨g, h1, h2, ds', h6.setRow ds', by omega⟩
  · exact ⟨g, h1, h2, cs, (heap_setRow w g' ds' g hg).trans h3, h4⟩
/-- What operation k has made holds these cells. -/
def DSet (k : Nat) (t : TypeId) (s0 : Nat) (C : (Nat → Value) → Array Value) : DP := fun y v w => v = undef ∧ ∃ g, y k = .pointer (some ⟨g, 0, none⟩) ∧ s0 ≤ g ∧ Blk w g t (C y)
/-- The block g, made within the region, holds these cells. -/
def HasB (g : Nat) (t : TypeId) (s0 : Nat) (cs : Array Value) : VP := fun v w => v = undef ∧ s0 ≤ g ∧ Blk w g t cs
theorem DSet.has {k g : Nat} {t : TypeId} {s0 : Nat} {C : (Nat → Value) → Array Value} {y : Nat → Value} {cs : Array Value} (hk : y k = .pointer (some ⟨g, 0, none⟩)) (hC : C y = cs) : DSet k t s0 C y = HasB g t s0 cs := by
  funext v w
  apply propext
  constructor
  · rintro ⟨h1, g', e', h2, h3⟩
    rw [hk] at e'
    injection e' with e'
    injection e' with e'
    injection e' with e'
    subst e' hC
    exact ⟨h1, h2, h3⟩
  · rintro ⟨h1, h2, h3⟩
    exact ⟨h1, g, hk, h2, by rw [hC]; exact h3⟩
theorem wpTd_set (k : Nat) (C : (Nat → Value) → Array Value) {t : TypeId} {s0 g : Nat} {cs : Array Value} (hw : Region.wanted o (yielded ops a.tmps) = true) (hs : st.find? (fun p => p.i == env.length) = some (TrP.new env.length t s0)) (ty : TypeId) (x y : Operand) (ho : o.op = .store ty x y)
    (hx : a.eval x = .pointer (some ⟨g, 0, none⟩)) (hy : a.eval y = .agg cs) (hi : (P.info? ty).map (·.size) = some cs.size) (h1 : cs.all (·.oneCell') = true) (hk : yOf env k = .pointer (some ⟨g, 0, none⟩)) (hC : C (yOf env) = cs)
    (hv : ∀ w, (∀ e ∈ o.after, Region.binds .any e = true → ∀ (x : Value) (W : VP), env[e.on]? = some (x, W) → W x w) → VNew t cs.size s0 (.pointer (some ⟨g, 0, none⟩)) w)
    (h2 : (∃ w, Turn (trE st) w0 w ∧ Blk w g t cs) → ∀ K : Act → Prop, (∀ a', wpRgd P ops (trR ops st w0) Q rest Ds (env ++ [(undef, HasB g t s0 cs)]) a' → K a') → K (a.put o.dst undef)) : wpRgd P ops (trR ops st w0) Q (o :: rest) (DSet k t s0 C :: Ds) env a := by
  rw [← DSet.has hk hC] at h2
  refine ⟨?_, fun x ⟨w, hT, hx⟩ => ?_⟩
  · rw [if_pos hw]
    intro w hT hf
    obtain ⟨g', e', h4, ds, h5, h6⟩ := hv w hf
    injection e' with e'
    injection e' with e'
    injection e' with e'
    subst e'
    have eS : (trR ops st w0).S env.length = PutNew t s0 := by funext w w'; simp only [trR, trnS, hs, TrP.new]
    rw [eS]
    have hrun : (execOp a.eval o).run P w = .ok .skip (w.setRow g cs) := by
      unfold execOp
      simp only [ho, hx, hy, Instr.storeAt, Instr.sureAddr, Sem.run_bind, Sem.run_pure, Result.andThen_ok, run_storeVar_row w g t ty ds cs h5 hi h6 h1]
    unfold steps
    rw [hrun]
    exact ⟨⟨g, ds, cs, h4, h5, h6.symm, rfl⟩, rfl, g, hk, h4, by rw [hC]; exact h5.setRow cs⟩
  · obtain ⟨rfl, g', e', _, hb⟩ := hx
    rw [hk] at e'
    injection e' with e'
    injection e' with e'
    injection e' with e'
    subst e'
    rw [hC] at hb
    exact h2 ⟨w, hT, hb⟩ _ fun _ h => h
theorem DSet.ok {k j : Nat} {t : TypeId} {s0 : Nat} {C : (Nat → Value) → Array Value} (hw : waits ops j k = true) (hC : ∀ y y' : Nat → Value, (∀ i, waits ops j i = true → y i = y' i) → C y = C y')
    (hst : ∀ p ∈ st, p.i ≠ j → waits ops j p.i = false → ∃ F : Nat → Prop, p.T = Turn F ∧ ∀ g, F g → g < s0) : okD ops st j (DSet k t s0 C) := by
  refine ⟨fun y v w w' hb ⟨h1, g, h2, h3, h4⟩ => ⟨h1, g, h2, h3, h4.later hb⟩, fun p hp hn hw y v w w' hT ⟨h1, g, h2, h3, h4⟩ => ?_, fun y y' h => ?_⟩
  · obtain ⟨F, e, hF⟩ := hst p hp hn hw
    rw [e] at hT
    exact ⟨h1, g, h2, h3, (hT.block g h4.lt fun h => by have := hF g h; omega).trans h4⟩
  · unfold DSet
    rw [h k hw, hC y y' h]
/-- Only new variables are written: nothing else turns. -/
theorem below_new {w : World} {t : TypeId} {i : Nat} (h : Turn (trE [TrP.new i t w0.heap.size]) w0 w) : Below w0.heap.size w0 w :=
  ⟨h.os, h.tape, h.output, h.size, fun b hb => h.block b hb fun hF => by rw [trE1] at hF; have : w0.heap.size ≤ b := hF; omega⟩
end
end Go.Proofs.YthbhkdhljlganaaGreatDoor
