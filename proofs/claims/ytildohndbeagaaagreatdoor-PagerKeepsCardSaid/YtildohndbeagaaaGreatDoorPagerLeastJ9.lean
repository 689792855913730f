/- What the proof of PagerLeast needs, part 9. -/
import Derived.Test.YtildohndbeagaaaGreatDoorPagerLeastJ8

namespace Go.Proofs.YtildohndbeagaaaGreatDoor
open Go
set_option linter.unusedVariables false

theorem pgCount_put {x : Nat} {most : Int} (hx : x < U64) (hm : (x : Int) ≤ most) (s : List UInt8) : rdCount (varB x ++ s) 0 most = (x, s, 0) := by
  unfold rdCount
  rw [if_neg (by simp), getVarB_varB hx]
  simp only
  rw [if_neg (by omega), List.drop_left]
theorem rdEnd_nil : rdEnd [] 0 = 0 := rfl
theorem rdEnd_more (l : List UInt8) : ¬ (rdEnd l 0 ≠ 0 ∧ rdEnd l 0 ≠ 31) := by
  unfold rdEnd
  split <;> simp
theorem mem_ids {α : Type} {f : Int → Option α} {i : Nat} : i ∈ idsOf f ↔ i < 90 ∧ (f (i : Int)).isSome = true := by
  unfold idsOf
  rw [List.mem_filter, List.mem_range]
theorem ids_lt {α : Type} (f : Int → Option α) : (idsOf f).Pairwise (· < ·) := List.Pairwise.sublist List.filter_sublist List.pairwise_lt_range
theorem ids_nodup {α : Type} (f : Int → Option α) : (idsOf f).Nodup := (ids_lt f).imp (fun h => Nat.ne_of_lt h)
theorem ids_le {α : Type} (f : Int → Option α) : (idsOf f).length ≤ 90 := by
  have := List.length_filter_le (fun i : Nat => (f (i : Int)).isSome) (List.range 90)
  rw [List.length_range] at this
  exact this

structure TbOk (n : Nat) (t : TF) : Prop where
  in90 : In90 t
  row : ∀ i p l, t i = some (p, l) → p < n ∧ l ≤ 2048
  one : ∀ i j p l l', t i = some (p, l) → t j = some (p, l') → i = j
theorem TbOk.none (n : Nat) : TbOk n (fun _ => none) := ⟨fun x h => (by cases h), fun i p l h => (by cases h), fun i j p l l' h => (by cases h)⟩

theorem claimB_free {u : List Bool} {p : Nat} (hp : p < u.length) (h0 : u.getD p false = false) : claimB u (p : Int) = (flipAt u p, 0) := by
  unfold claimB
  rw [if_neg]
  · rfl
  · rw [hasB_nat, h0]
    rintro (h | h | h)
    · omega
    · omega
    · cases h
theorem flip_get (u : List Bool) (p q : Nat) (h : q ≠ p) : (flipAt u p).getD q false = u.getD q false := by
  unfold flipAt
  simp [List.getD_eq_getElem?_getD, List.getElem?_set_ne (Ne.symm h)]
theorem flip_self {u : List Bool} {p : Nat} (hp : p < u.length) : (flipAt u p).getD p false = !(u.getD p false) := by
  unfold flipAt
  simp [List.getD_eq_getElem?_getD, hp]

theorem pcLoop_rows {n : Nat} (hn : n ≤ 256) (t : TF) (ht : TbOk n t) : ∀ (r : List Nat) (last : Int) (u : List Bool) (t0 : TF), r.Pairwise (· < ·) → (∀ i ∈ r, last < (i : Int)) → (∀ i ∈ r, i < 90 ∧ (t (i : Int)).isSome = true) → u.length = n →
    (∀ i ∈ r, ∀ p l, t (i : Int) = some (p, l) → u.getD p false = false) →
    ∃ last' u', pcLoop n r.length ⟨r.flatMap (rowB t), 0, last, u, t0⟩ = some ⟨[], 0, last', u', fun x => if ∃ i ∈ r, x = ((i : Nat) : Int) then t x else t0 x⟩
  | [], last, u, t0, _, _, _, _, _ => ⟨last, u, by simp [pcLoop]⟩
  | i :: r, last, u, t0, hs, hl, hi, hu, hf => by
    obtain ⟨h90, hsome⟩ := hi i (by simp)
    obtain ⟨⟨p, l⟩, hpl⟩ := Option.isSome_iff_exists.1 hsome
    obtain ⟨hpn, hl2⟩ := ht.row _ p l hpl
    have hp0 := hf i (by simp) p l hpl
    have hlast := hl i (by simp)
    obtain ⟨hs1, hs2⟩ := List.pairwise_cons.1 hs
    have hrow : (i :: r).flatMap (rowB t) = varB i ++ (varB p ++ (varB l ++ r.flatMap (rowB t))) := by
      rw [List.flatMap_cons]
      unfold rowB
      rw [hpl]
      simp only [Option.getD_some, List.append_assoc]
    have hone : pcOne n ⟨(i :: r).flatMap (rowB t), 0, last, u, t0⟩ = some ⟨r.flatMap (rowB t), 0, (i : Int), flipAt u p, t0.put (i : Int) (p, l)⟩ := by
      unfold pcOne
      rw [hrow]
      simp only
      rw [pgCount_put (by unfold U64; omega) (by omega)]
      simp only
      rw [pgCount_put (by unfold U64; omega) (by omega)]
      simp only
      rw [pgCount_put (by unfold U64; omega) (by omega)]
      simp only
      rw [claimB_free (by omega) hp0, if_neg]
      rintro (h | h | h)
      · exact rdEnd_more _ h
      · omega
      · exact h rfl
    obtain ⟨last', u', hrec⟩ := pcLoop_rows hn t ht r (i : Int) (flipAt u p) (t0.put (i : Int) (p, l)) hs2 (fun j hj => by have := hs1 j hj; omega) (fun j hj => hi j (by simp [hj])) (by rw [flipAt_length, hu]) (fun j hj q m hq => by
      rw [flip_get u p q]
      · exact hf j (by simp [hj]) q m hq
      · rintro rfl
        have := ht.one _ _ _ _ _ hpl hq
        have := hs1 j hj
        omega)
    refine ⟨last', u', ?_⟩
    rw [List.length_cons]
    unfold pcLoop
    rw [hone]
    simp only
    rw [hrec]
    congr 1
    congr 1
    funext x
    by_cases h1 : ∃ j ∈ r, x = ((j : Nat) : Int)
    · rw [if_pos h1, if_pos]
      obtain ⟨j, hj, e⟩ := h1
      exact ⟨j, by simp [hj], e⟩
    · rw [if_neg h1]
      unfold TF.put
      by_cases h2 : x = (i : Int)
      · rw [if_pos h2, if_pos ⟨i, by simp, h2⟩, h2, hpl]
      · rw [if_neg h2, if_neg]
        rintro ⟨j, hj, e⟩
        rcases List.mem_cons.1 hj with rfl | hj
        · exact h2 e
        · exact h1 ⟨j, hj, e⟩
/-- What is told is parsed again. -/
theorem pgParse_tells {n tag : Nat} {t : TF} (hn : n ≤ 256) (ht : TbOk n t) (htag : tag < U64) : pgParse n (tellsT tag t) = some (tag, t) := by
  have h1 : rdNum (tellsT tag t) 0 = (tag, varB (idsOf t).length ++ (idsOf t).flatMap (rowB t), 0) := rdNum_put htag _
  have hle := ids_le t
  have h2 : rdCount (varB (idsOf t).length ++ (idsOf t).flatMap (rowB t)) 0 90 = ((idsOf t).length, (idsOf t).flatMap (rowB t), 0) := pgCount_put (by unfold U64; omega) (by omega) _
  obtain ⟨last', u', h3⟩ := pcLoop_rows hn t ht (idsOf t) (-1) (List.replicate n false) (fun _ => none) (ids_lt t) (fun i _ => by omega) (fun i hi => mem_ids.1 hi) (by simp) (fun i _ p l _ => by
    simp [List.getD_eq_getElem?_getD, List.getElem?_replicate]
    split <;> rfl)
  unfold pgParse pcInit
  rw [h1]
  simp only
  rw [h2]
  simp only
  rw [h3]
  simp only
  rw [rdEnd_nil, if_pos rfl]
  congr 2
  funext x
  by_cases hx : ∃ i ∈ idsOf t, x = ((i : Nat) : Int)
  · rw [if_pos hx]
  · rw [if_neg hx]
    cases hh : t x with
    | none => rfl
    | some y =>
      have h9 := ht.in90 x (by rw [hh]; rfl)
      exact absurd ⟨x.toNat, mem_ids.2 ⟨by omega, by rw [show ((x.toNat : Nat) : Int) = x by omega, hh]; rfl⟩, by omega⟩ hx
theorem rowB_len {t : TF} {n i : Nat} (hn : n ≤ 256) (ht : TbOk n t) (hi : i < 90) : (rowB t i).length ≤ 5 := by
  unfold rowB
  rw [List.length_append, List.length_append]
  have h1 : (varB i).length ≤ 1 := varB_le 0 i (by omega)
  cases hh : t (i : Int) with
  | none =>
    have h2 : (varB 0).length ≤ 1 := varB_le 0 0 (by omega)
    simp only [Option.getD_none]
    omega
  | some y =>
    obtain ⟨p, l⟩ := y
    obtain ⟨h3, h4⟩ := ht.row _ p l hh
    have h2 : (varB p).length ≤ 2 := varB_le 1 p (by omega)
    have h5 : (varB l).length ≤ 2 := varB_le 1 l (by omega)
    simp only [Option.getD_some]
    omega
theorem flat_len {f : Nat → List UInt8} {m : Nat} : ∀ (l : List Nat), (∀ i ∈ l, (f i).length ≤ m) → (l.flatMap f).length ≤ m * l.length
  | [], _ => by simp
  | i :: r, h => by
    have h1 := h i (by simp)
    have h2 := flat_len r fun j hj => h j (by simp [hj])
    rw [List.flatMap_cons, List.length_append, List.length_cons, Nat.mul_succ]
    omega
theorem tells_len {n tag : Nat} {t : TF} (hn : n ≤ 256) (ht : TbOk n t) (htag : tag < U64) : (tellsT tag t).length ≤ 480 := by
  unfold tellsT
  rw [List.length_append, List.length_append]
  have h1 := varB_le10 htag
  have h2 := ids_le t
  have h3 : (varB (idsOf t).length).length ≤ 1 := varB_le 0 _ (by omega)
  have h4 := flat_len (f := rowB t) (m := 5) (idsOf t) fun i hi => rowB_len hn ht (mem_ids.1 hi).1
  have h5 : 5 * (idsOf t).length ≤ 5 * 90 := Nat.mul_le_mul_left 5 h2
  omega

/-! ### Places given out -/
theorem takenT_len (n : Nat) (t : TF) (left : Int → Bool) : (takenT n t left).length = n := by simp [takenT]
theorem takenT_get {n : Nat} {t : TF} {left : Int → Bool} {p : Nat} (hp : p < n) : (takenT n t left).getD p false = true ↔ ∃ i : Nat, i < 90 ∧ left (i : Int) = false ∧ ∃ l, t (i : Int) = some (p, l) := by
  have e : (takenT n t left).getD p false = (List.range 90).any fun i => !left (i : Int) && (match t (i : Int) with | some x => x.1 == p | none => false) := by
    unfold takenT
    rw [List.getD_eq_getElem?_getD, List.getElem?_map, List.getElem?_range hp]
    rfl
  rw [e, List.any_eq_true]
  constructor
  · rintro ⟨i, hi, h⟩
    rw [List.mem_range] at hi
    simp only [Bool.and_eq_true, Bool.not_eq_true'] at h
    refine ⟨i, hi, h.1, ?_⟩
    cases hh : t (i : Int) with
    | none => rw [hh] at h; exact absurd h.2 (by simp)
    | some y =>
      rw [hh] at h
      have h2 := h.2
      simp only [beq_iff_eq] at h2
      exact ⟨y.2, by rw [← h2]⟩
  · rintro ⟨i, hi, hl, l, h⟩
    exact ⟨i, List.mem_range.2 hi, by rw [h, hl]; simp⟩
/-- What assignT makes. -/
structure Asg (wr : SF) (u : List Bool) (ids : List Nat) (t t' : TF) : Prop where
  old : ∀ x, (¬ ∃ i ∈ ids, x = ((i : Nat) : Int)) → t' x = t x
  new : ∀ i ∈ ids, ∃ p, t' ((i : Nat) : Int) = some (p, ((wr (i : Int)).getD []).length) ∧ p < u.length ∧ u.getD p false = false
  one : ∀ i ∈ ids, ∀ j ∈ ids, ∀ p l l', t' ((i : Nat) : Int) = some (p, l) → t' ((j : Nat) : Int) = some (p, l') → i = j
theorem assignT_ok (wr : SF) : ∀ (ids : List Nat) (u : List Bool) (t t' : TF), ids.Nodup → assignT wr u ids t = some t' → Asg wr u ids t t'
  | [], u, t, t', _, h => by
    simp only [assignT, Option.some.injEq] at h
    subst h
    exact ⟨fun x _ => rfl, by simp, by simp⟩
  | i :: r, u, t, t', hn, h => by
    unfold assignT at h
    cases hf : firstFree u with
    | none => rw [hf] at h; cases h
    | some p =>
      rw [hf] at h
      simp only at h
      obtain ⟨hp, hp0, -⟩ := firstFree_lt hf
      obtain ⟨hn1, hn2⟩ := List.nodup_cons.1 hn
      have ih := assignT_ok wr r _ _ _ hn2 h
      have hi : t' (i : Int) = some (p, ((wr (i : Int)).getD []).length) := by
        rw [ih.old (i : Int) (fun ⟨j, hj, e⟩ => hn1 (by rw [show i = j by omega]; exact hj))]
        exact if_pos rfl
      have hnew : ∀ j ∈ r, ∃ q, t' ((j : Nat) : Int) = some (q, ((wr (j : Int)).getD []).length) ∧ q < u.length ∧ u.getD q false = false ∧ q ≠ p := fun j hj => by
        obtain ⟨q, h1, h2, h3⟩ := ih.new j hj
        rw [flipAt_length] at h2
        have hq : q ≠ p := by
          rintro rfl
          rw [flip_self hp, hp0] at h3
          cases h3
        rw [flip_get u p q hq] at h3
        exact ⟨q, h1, h2, h3, hq⟩
      refine ⟨fun x hx => ?_, fun j hj => ?_, fun j hj k hk q l l' h1 h2 => ?_⟩
      · rw [ih.old x (fun ⟨j, hj, e⟩ => hx ⟨j, by simp [hj], e⟩)]
        exact if_neg (fun e => hx ⟨i, by simp, e⟩)
      · rcases List.mem_cons.1 hj with rfl | hj
        · exact ⟨p, hi, hp, hp0⟩
        · obtain ⟨q, h1, h2, h3, _⟩ := hnew j hj
          exact ⟨q, h1, h2, h3⟩
      · rcases List.mem_cons.1 hj with ej | hj'
        · subst ej
          rcases List.mem_cons.1 hk with ek | hk'
          · exact ek.symm
          · obtain ⟨q', h3, _, _, h4⟩ := hnew k hk'
            rw [hi] at h1
            rw [h3] at h2
            simp only [Option.some.injEq, Prod.mk.injEq] at h1 h2
            omega
        · rcases List.mem_cons.1 hk with ek | hk'
          · subst ek
            obtain ⟨q', h3, _, _, h4⟩ := hnew j hj'
            rw [hi] at h2
            rw [h3] at h1
            simp only [Option.some.injEq, Prod.mk.injEq] at h1 h2
            omega
          · exact ih.one j hj' k hk' q l l' h1 h2
theorem count_flip0 {u : List Bool} {p : Nat} (hp : p < u.length) (h0 : u.getD p false = false) : (flipAt u p).count false + 1 = u.count false := by
  unfold flipAt
  rw [h0]
  have h1 : u[p] = false := by simpa [List.getD_eq_getElem?_getD, hp] using h0
  have h2 : 0 < u.count false := List.count_pos_iff.2 (by rw [← h1]; exact List.getElem_mem hp)
  rw [List.count_set (by simpa using hp)]
  simp [h1]
  omega
/-- There are places enough, or not. -/
theorem assignT_iff (wr : SF) : ∀ (ids : List Nat) (u : List Bool) (t : TF), (assignT wr u ids t).isSome = true ↔ ids.length ≤ u.count false
  | [], u, t => by simp [assignT]
  | i :: r, u, t => by
    unfold assignT
    cases hf : firstFree u with
    | none =>
      have := firstFree_all hf
      have h0 : u.count false = 0 := by
        rw [List.count_eq_zero]
        intro hm
        obtain ⟨j, hj, e⟩ := List.mem_iff_getElem.1 hm
        have := this j hj hj
        simp [List.getD_eq_getElem?_getD, hj, e] at this
      simp only [Option.isSome_none, List.length_cons, h0]
      simp
    | some p =>
      obtain ⟨hp, hp0, -⟩ := firstFree_lt hf
      have := count_flip0 hp hp0
      simp only
      rw [assignT_iff wr r, List.length_cons]
      omega
/-- So many places are free. -/
theorem takenT_count {n : Nat} {t : TF} (ht : TbOk n t) : (takenT n t noLeft).count false + (idsOf t).length = n := by
  have e1 : (takenT n t noLeft).count true = (idsOf t).length := by
    have hl : (takenT n t noLeft).count true = ((List.range n).filter fun p => (takenT n t noLeft).getD p false).length := by
      have e : takenT n t noLeft = (List.range n).map fun p => (takenT n t noLeft).getD p false := by
        apply List.ext_getElem
        · simp [takenT]
        · intro k h1 h2
          simp [List.getD_eq_getElem?_getD, h1]
      rw [List.count_eq_countP, ← List.countP_eq_length_filter]
      conv => lhs; rw [e]
      rw [List.countP_map]
      congr 1
      funext p
      simp [Function.comp]
    rw [hl]
    have hpl : ∀ i ∈ idsOf t, ∃ l, t (i : Int) = some (((t (i : Int)).getD (0, 0)).1, l) := fun i hi => by
      obtain ⟨y, hy⟩ := Option.isSome_iff_exists.1 (mem_ids.1 hi).2
      rw [hy]
      exact ⟨y.2, rfl⟩
    apply Nat.le_antisymm
    · have h1 := nodup_sub (l := (List.range n).filter fun p => (takenT n t noLeft).getD p false) (l' := (idsOf t).map fun i : Nat => ((t (i : Int)).getD (0, 0)).1) (List.Nodup.sublist List.filter_sublist List.nodup_range) fun p hp => by
        rw [List.mem_filter, List.mem_range] at hp
        obtain ⟨i, hi, _, l, hl⟩ := (takenT_get hp.1).1 hp.2
        exact List.mem_map.2 ⟨i, mem_ids.2 ⟨hi, by rw [hl]; rfl⟩, by rw [hl]; rfl⟩
      rwa [List.length_map] at h1
    · have h1 := nodup_sub (l := (idsOf t).map fun i : Nat => ((t (i : Int)).getD (0, 0)).1) (l' := (List.range n).filter fun p => (takenT n t noLeft).getD p false) (by
        refine List.pairwise_map.2 ((ids_nodup t).imp_of_mem fun {i j} hi hj hne e => hne ?_)
        obtain ⟨l, h1⟩ := hpl i hi
        obtain ⟨l', h2⟩ := hpl j hj
        rw [← e] at h2
        have := ht.one _ _ _ _ _ h1 h2
        omega) fun p hp => by
        obtain ⟨i, hi, rfl⟩ := List.mem_map.1 hp
        obtain ⟨l, h2⟩ := hpl i hi
        have h3 := (ht.row _ _ _ h2).1
        exact List.mem_filter.2 ⟨List.mem_range.2 h3, (takenT_get h3).2 ⟨i, (mem_ids.1 hi).1, rfl, l, h2⟩⟩
      rwa [List.length_map] at h1
  have e2 : (takenT n t noLeft).count true + (takenT n t noLeft).count false = n := by
    have h1 : ∀ u : List Bool, u.count true + u.count false = u.length := fun u => by
      induction u with
      | nil => rfl
      | cons b r ih => cases b <;> simp <;> omega
    rw [h1, takenT_len]
  omega
/-- The table that is to be committed. -/
theorem next_ok {P : Pgr} {t : TF} (ht : TbOk P.n P.tb) (hw : In90 P.wr) (hl : ∀ x b, P.wr x = some b → b.length ≤ 2048) (h : P.next = some t) :
    TbOk P.n t ∧ (∀ x, (t x).isSome = ((P.wr x).isSome || ((P.tb x).isSome && !P.gn x))) ∧ (∀ x b, P.wr x = some b → ∃ p, t x = some (p, b.length) ∧ ∀ j q l, P.tb j = some (q, l) → q ≠ p) ∧ (∀ x, P.wr x = none → P.gn x = false → t x = P.tb x) := by
  have hA := assignT_ok P.wr (idsOf P.wr) _ _ _ (ids_nodup _) h
  have inid : ∀ x b, P.wr x = some b → ∃ i ∈ idsOf P.wr, x = ((i : Nat) : Int) := fun x b hx => by
    have := hw x (by rw [hx]; rfl)
    exact ⟨x.toNat, mem_ids.2 ⟨by omega, by rw [show ((x.toNat : Nat) : Int) = x by omega, hx]; rfl⟩, by omega⟩
  have hnew : ∀ x b, P.wr x = some b → ∃ p, t x = some (p, b.length) ∧ p < P.n ∧ ∀ j q l, P.tb j = some (q, l) → q ≠ p := fun x b hx => by
    obtain ⟨i, hi, rfl⟩ := inid x b hx
    obtain ⟨p, h1, h2, h3⟩ := hA.new i hi
    rw [hx] at h1
    rw [takenT_len] at h2
    refine ⟨p, h1, h2, fun j q l hj e => ?_⟩
    subst e
    have h90 := ht.in90 j (by rw [hj]; rfl)
    have := (takenT_get (n := P.n) (t := P.tb) (left := noLeft) h2).2 ⟨j.toNat, by omega, rfl, l, by rw [show ((j.toNat : Nat) : Int) = j by omega]; exact hj⟩
    rw [this] at h3
    cases h3
  have hold : ∀ x, P.wr x = none → t x = keptT P.tb P.gn noLeft x := fun x hx => hA.old x fun ⟨i, hi, e⟩ => by
    subst e
    have := (mem_ids.1 hi).2
    rw [hx] at this
    cases this
  have hkept : ∀ x, keptT P.tb P.gn noLeft x = if P.gn x then none else P.tb x := fun x => by
    unfold keptT noLeft
    simp
  refine ⟨⟨fun x hx => ?_, fun x p l hx => ?_, fun x y p l l' hx hy => ?_⟩, fun x => ?_, fun x b hx => ?_, fun x h1 h2 => ?_⟩
  · cases hh : P.wr x with
    | some b => exact hw x (by rw [hh]; rfl)
    | none =>
      rw [hold x hh, hkept] at hx
      split at hx
      · cases hx
      · exact ht.in90 x hx
  · cases hh : P.wr x with
    | some b =>
      obtain ⟨q, h1, h2, _⟩ := hnew x b hh
      rw [h1] at hx
      simp only [Option.some.injEq, Prod.mk.injEq] at hx
      have := hl x b hh
      omega
    | none =>
      rw [hold x hh, hkept] at hx
      split at hx
      · cases hx
      · exact ht.row x p l hx
  · cases hh : P.wr x with
    | some b =>
      cases hg : P.wr y with
      | some b' =>
        obtain ⟨i, hi, rfl⟩ := inid x b hh
        obtain ⟨j, hj, rfl⟩ := inid y b' hg
        rw [hA.one i hi j hj p l l' hx hy]
      | none =>
        obtain ⟨q, h1, _, h2⟩ := hnew x b hh
        rw [hold y hg, hkept] at hy
        split at hy
        · cases hy
        · rw [h1] at hx
          simp only [Option.some.injEq, Prod.mk.injEq] at hx
          exact absurd hx.1.symm (h2 y p l' hy)
    | none =>
      rw [hold x hh, hkept] at hx
      split at hx
      · cases hx
      · cases hg : P.wr y with
        | some b' =>
          obtain ⟨q, h1, _, h2⟩ := hnew y b' hg
          rw [h1] at hy
          simp only [Option.some.injEq, Prod.mk.injEq] at hy
          exact absurd hy.1.symm (h2 x p l hx)
        | none =>
          rw [hold y hg, hkept] at hy
          split at hy
          · cases hy
          · exact ht.one x y p l l' hx hy
  · cases hh : P.wr x with
    | some b =>
      obtain ⟨q, h1, _⟩ := hnew x b hh
      rw [h1]; rfl
    | none =>
      rw [hold x hh, hkept]
      cases P.gn x <;> simp
  · obtain ⟨p, h1, _, h3⟩ := hnew x b hx
    exact ⟨p, h1, h3⟩
  · rw [hold x h1, hkept, h2]; rfl
theorem next_iff {P : Pgr} (ht : TbOk P.n P.tb) : P.next.isSome = true ↔ (idsOf P.wr).length + (idsOf P.tb).length ≤ P.n := by
  unfold Pgr.next
  rw [assignT_iff]
  have := takenT_count ht
  omega
end Go.Proofs.YtildohndbeagaaaGreatDoor
