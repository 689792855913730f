/- The meta page: what the two sectors tell, behind steps and crashes. Plain. -/
import Derived.Test.YtpmndmgfoiagnaaDoorMetD
namespace Go.Proofs.YtpmndmgfoiagnaaDoor
open Go
set_option linter.unusedVariables false

theorem tellsB_pos {s : List UInt8} {q : Nat} {t : List UInt8} (h : tellsB s = some (q, t)) : 0 < q := by
  unfold tellsB at h
  split at h
  · split at h
    · rename_i hc
      injection h with h
      injection h with h1 h2
      omega
    · cases h
  · cases h
theorem tellsO_pos {o : Option (List UInt8)} {q : Nat} {t : List UInt8} (h : tellsO o = some (q, t)) : 0 < q := by
  cases o with
  | none => cases h
  | some s => exact tellsB_pos h
theorem tells_rec {q : Nat} {t : List UInt8} (hq : q < U64) (hq0 : 0 < q) (ht : t.length ≤ 32768) : tellsB (recB q t) = some (q, t) := by
  have := recGet_put hq ht []
  rw [List.append_nil] at this
  unfold tellsB
  rw [this]
  exact if_pos ⟨rfl, hq0⟩
theorem tells_torn {q : Nat} {t : List UInt8} (hq : q < U64) (hq0 : 0 < q) (ht : t.length ≤ 32768) (n : Int) : tellsB (tornB (recB q t) [] n) = none ∨ tornB (recB q t) [] n = recB q t := by
  unfold tornB
  by_cases h : n.toNat < (recB q t).length
  · left
    rw [if_pos h, List.drop_nil, List.append_nil]
    unfold tellsB
    rw [recGet_cut hq ht h]
  · right
    rw [if_neg h]
theorem recB_short {q : Nat} {t : List UInt8} (hq : q < U64) (ht : t.length ≤ 480) : (recB q t).length ≤ 512 := by
  have h1 := varB_le10 hq
  have h2 := varB_le 1 t.length (by omega)
  rw [recB_len]
  unfold recF
  rw [List.length_append, List.length_append]
  omega

/-- What the page tells: two sectors alone are in use. -/
structure Mi (f : SF) (a : Int) (num : Nat) (last : Int) (body : List UInt8) : Prop where
  only : ∀ x, (f x).isSome = true → x = a ∨ x = a + 1
  l01 : last = 0 ∨ last = 1
  zero : num = 0 → last = 1 ∧ body = [] ∧ tellsO (f (a + last)) = none ∧ tellsO (f (a + (1 - last))) = none
  pos : 0 < num → tellsO (f (a + last)) = some (num, body) ∧ ∀ q t, tellsO (f (a + (1 - last))) = some (q, t) → q < num
section
variable {f : SF} {a : Int} {num : Nat} {last : Int} {body : List UInt8}
theorem Mi.start (a : Int) : Mi (fun _ => none) a 0 1 [] := ⟨fun _ h => (by cases h), .inr rfl, fun _ => ⟨rfl, rfl, rfl, rfl⟩, fun h => absurd h (by omega)⟩
theorem Mi.open (h : Mi f a num last body) : mtOpen f a = (num, last, body) := by
  rw [mtOpen_eq, mtUp, mtUp, mtUp, mtStep_eq, mtStep_eq]
  rw [show a + ((0 : Nat) : Int) = a + 0 by simp, show a + ((0 + 1 : Nat) : Int) = a + 1 by simp]
  rcases Nat.eq_zero_or_pos num with h0 | h0
  · obtain ⟨rfl, rfl, h1, h2⟩ := h.zero h0
    rw [show a + (1 - 1 : Int) = a + 0 by omega] at h2
    rw [h1, h2]
    subst h0
    rfl
  · obtain ⟨h1, h2⟩ := h.pos h0
    rcases h.l01 with rfl | rfl
    · rw [show a + (1 - 0 : Int) = a + 1 by omega] at h2
      rw [h1]
      simp only
      rw [if_pos h0]
      cases ht : tellsO (f (a + 1)) with
      | none => rfl
      | some y =>
        obtain ⟨q, t⟩ := y
        have := h2 q t ht
        simp only
        rw [if_neg (by omega)]
        rfl
    · rw [show a + (1 - 1 : Int) = a + 0 by omega] at h2
      rw [h1]
      cases ht : tellsO (f (a + 0)) with
      | none => simp only; rw [if_pos h0]; rfl
      | some y =>
        obtain ⟨q, t⟩ := y
        have h3 := h2 q t ht
        have h4 := tellsO_pos ht
        simp only
        rw [if_pos h4]
        simp only
        rw [if_pos h3]
        rfl
theorem ne_of_l01 (h : last = 0 ∨ last = 1) : a + last ≠ a + (1 - last) := by omega
theorem Mi.del (h : Mi f a num last body) : Mi (f.del (a + (1 - last))) a num last body := by
  have hne := ne_of_l01 (a := a) h.l01
  have e1 : (f.del (a + (1 - last))) (a + last) = f (a + last) := if_neg hne
  have e2 : (f.del (a + (1 - last))) (a + (1 - last)) = none := if_pos rfl
  refine ⟨fun x hx => ?_, h.l01, fun h0 => ?_, fun h0 => ?_⟩
  · unfold SF.del at hx
    split at hx
    · cases hx
    · exact h.only x hx
  · obtain ⟨h1, h2, h3, h4⟩ := h.zero h0
    rw [e1, e2]
    exact ⟨h1, h2, h3, rfl⟩
  · rw [e1, e2]
    exact ⟨(h.pos h0).1, fun q t hq => by cases hq⟩
theorem Mi.put_only (h : Mi f a num last body) (b : List UInt8) : ∀ x, ((f.put (a + (1 - last)) b) x).isSome = true → x = a ∨ x = a + 1 := by
  intro x hx
  unfold SF.put at hx
  split at hx
  · have := h.l01; omega
  · exact h.only x hx
theorem Mi.put_none (h : Mi f a num last body) {b : List UInt8} (hb : tellsB b = none) : Mi (f.put (a + (1 - last)) b) a num last body := by
  have hne := ne_of_l01 (a := a) h.l01
  have e1 : (f.put (a + (1 - last)) b) (a + last) = f (a + last) := if_neg hne
  have e2 : (f.put (a + (1 - last)) b) (a + (1 - last)) = some b := if_pos rfl
  refine ⟨h.put_only b, h.l01, fun h0 => ?_, fun h0 => ?_⟩
  · obtain ⟨h1, h2, h3, h4⟩ := h.zero h0
    rw [e1, e2]
    exact ⟨h1, h2, h3, hb⟩
  · rw [e1, e2]
    exact ⟨(h.pos h0).1, fun q t hq => by have : tellsO (some b) = none := hb; rw [this] at hq; cases hq⟩
theorem Mi.put_new (h : Mi f a num last body) {b t : List UInt8} (hb : tellsB b = some (num + 1, t)) : Mi (f.put (a + (1 - last)) b) a (num + 1) (1 - last) t := by
  have hne := ne_of_l01 (a := a) h.l01
  have e1 : (f.put (a + (1 - last)) b) (a + last) = f (a + last) := if_neg hne
  have e2 : (f.put (a + (1 - last)) b) (a + (1 - last)) = some b := if_pos rfl
  refine ⟨h.put_only b, by have := h.l01; omega, fun h0 => by omega, fun _ => ?_⟩
  rw [show 1 - (1 - last) = last by omega, e1, e2]
  refine ⟨hb, fun q t' hq => ?_⟩
  rcases Nat.eq_zero_or_pos num with h0 | h0
  · rw [(h.zero h0).2.2.1] at hq; cases hq
  · rw [(h.pos h0).1] at hq
    injection hq with hq
    injection hq with hq
    omega
end
theorem two_le {p q : Int} : ∀ (l : List Int), l.Nodup → (∀ x ∈ l, x = p ∨ x = q) → l.length ≤ 2
  | [], _, _ => by simp
  | [_], _, _ => by simp
  | [_, _], _, _ => by simp
  | x :: y :: z :: r, hn, h => by
    have h1 := h x (by simp)
    have h2 := h y (by simp)
    have h3 := h z (by simp)
    simp only [List.nodup_cons, List.mem_cons, not_or] at hn
    omega
theorem FinK.two {f : SF} {n : Nat} (h : FinK f n) {a : Int} (ho : ∀ x, (f x).isSome = true → x = a ∨ x = a + 1) : n ≤ 2 := by
  obtain ⟨l, h1, _⟩ := h
  have := two_le (l.map (·.1)) h1.nodup fun x hx => ho x ((h1.has x).2 hx)
  rw [List.length_map, h1.len] at this
  exact this

/-- Nothing is pending. -/
structure Mr (D : Dsk) (a : Int) (num : Nat) (last : Int) (body : List UInt8) : Prop where
  pend : D.pend = []
  ground : D.ground = D.view
  ng : D.ng = D.nv
  mi : Mi D.view a num last body
  ok : D.Ok
  a0 : 0 ≤ a
  a1 : a + 1 < D.size
  lim : 2 < D.limit
section
variable {D : Dsk} {a : Int} {num : Nat} {last : Int} {body t : List UInt8}
theorem Mr.nv (h : Mr D a num last body) : D.nv ≤ 2 := h.ok.view.two h.mi.only
theorem Mr.start {n : Int} (hn : 3 ≤ n) (hn2 : n ≤ 65536) (h0 : 0 ≤ a) (h1 : a + 1 < n) : Mr (Dsk.new n) a 0 1 [] := ⟨rfl, rfl, rfl, Mi.start a, Dsk.Ok.new (by omega) hn2, h0, h1, by simp [Dsk.new]; omega⟩
theorem free_view (D : Dsk) (x : Int) : (D.free x).view = D.view.del x := by
  unfold Dsk.free
  split
  · rfl
  · rename_i hs
    funext y
    unfold SF.del
    split
    · subst y
      cases hv : D.view x with
      | none => rfl
      | some _ => rw [hv] at hs; simp at hs
    · rfl
theorem free_same (D : Dsk) (x : Int) : (D.free x).ground = D.ground ∧ (D.free x).ng = D.ng ∧ (D.free x).size = D.size ∧ (D.free x).limit = D.limit := by
  unfold Dsk.free
  split
  · exact ⟨rfl, rfl, rfl, rfl⟩
  · exact ⟨rfl, rfl, rfl, rfl⟩
/-- Freed and synced. -/
theorem Mr.two (h : Mr D a num last body) : Mr (D.free (a + (1 - last))).sync a num last body := by
  have hs := free_same D (a + (1 - last))
  refine ⟨rfl, rfl, rfl, ?_, (h.ok.free _).sync, h.a0, ?_, ?_⟩
  · show Mi (D.free (a + (1 - last))).view a num last body
    rw [free_view]
    exact h.mi.del
  · show a + 1 < (D.free (a + (1 - last))).size
    rw [hs.2.2.1]
    exact h.a1
  · show 2 < (D.free (a + (1 - last))).limit
    rw [hs.2.2.2]
    exact h.lim
theorem Mr.why (h : Mr D a num last body) {b : List UInt8} (hb : b.length ≤ 512) : D.why (a + (1 - last)) b = 0 := by
  unfold Dsk.why
  have h1 := h.nv
  have h2 := h.lim
  have h3 := h.a1
  have h4 := h.a0
  have h5 := h.mi.l01
  rw [if_neg (by omega), if_neg (by omega), if_neg (fun hh => by have := hh.2; omega)]
/-- What is put in the ground and the view. -/
theorem Mr.put (h : Mr D a num last body) {b : List UInt8} (hb : b.length ≤ 512) {num' : Nat} {last' : Int} (hm : Mi (D.view.put (a + (1 - last)) b) a num' last' t) {D' : Dsk} (h1 : D'.pend = []) (h2 : D'.ground = D'.view) (h3 : D'.ng = D'.nv) (h4 : D'.view = D.view.put (a + (1 - last)) b) (h5 : D'.Ok) (h6 : D'.size = D.size) (h7 : D'.limit = D.limit) : Mr D' a num' last' t :=
  ⟨h1, h2, h3, by rw [h4]; exact hm, h5, h.a0, by rw [h6]; exact h.a1, by rw [h7]; exact h.lim⟩
theorem write_view {x : Int} {b : List UInt8} (hw : D.why x b = 0) : D.write x b = D.put (.wr x b) b.length := by unfold Dsk.write; rw [if_pos hw]
theorem put_view (D : Dsk) (x : Int) (b : List UInt8) : (D.put (.wr x b) b.length).view = D.view.put x b := by
  show (doP (D.view, D.nv) (.wr x b) b.length).1 = _
  unfold doP
  simp only
  rw [tornB_all]
/-- Behind i steps, and a crash. -/
theorem Mr.crash (h : Mr D a num last body) (hn : num + 1 < U64) (ht : t.length ≤ 480) (l : List (Int × Int)) : ∀ i, i ≤ 4 →
    (i ≤ 3 ∧ Mr ((dAt D (a + (1 - last)) (recB (num + 1) t) i).crash l) a num last body) ∨ (3 ≤ i ∧ Mr ((dAt D (a + (1 - last)) (recB (num + 1) t) i).crash l) a (num + 1) (1 - last) t) := by
  have hb := recB_short hn ht
  have hx0 : (D.free (a + (1 - last))).sync.view (a + (1 - last)) = none := by
    show (D.free (a + (1 - last))).view _ = none
    rw [free_view]
    exact if_pos rfl
  have hw := h.two.why hb
  have hok := dAt_ok h.ok (a + (1 - last)) (recB (num + 1) t)
  intro i hi
  have hc := (hok i).crash l
  match i, hi with
  | 0, _ =>
    left
    refine ⟨by omega, ?_⟩
    have e : crashF l 0 (dAt D (a + (1 - last)) (recB (num + 1) t) 0).pend (D.ground, D.ng) = (D.ground, D.ng) := by
      show crashF l 0 D.pend _ = _
      rw [h.pend]; rfl
    refine ⟨rfl, rfl, rfl, ?_, hc, h.a0, h.a1, h.lim⟩
    show Mi (crashF l 0 D.pend (D.ground, D.ng)).1 a num last body
    rw [show crashF l 0 D.pend (D.ground, D.ng) = (D.ground, D.ng) from e, h.ground]
    exact h.mi
  | 1, _ =>
    left
    refine ⟨by omega, ?_⟩
    have hs := free_same D (a + (1 - last))
    refine ⟨rfl, rfl, rfl, ?_, hc, h.a0, ?_, ?_⟩
    · show Mi (crashF l 0 (D.free (a + (1 - last))).pend ((D.free (a + (1 - last))).ground, (D.free (a + (1 - last))).ng)).1 a num last body
      rw [hs.1, hs.2.1, h.ground]
      unfold Dsk.free
      split
      · show Mi (crashF l 0 (D.pend ++ [.fr (a + (1 - last))]) (D.view, D.ng)).1 a num last body
        rw [h.pend]
        show Mi (match keptN l 0 with | some n => doP (D.view, D.ng) (.fr (a + (1 - last))) n | none => (D.view, D.ng)).1 a num last body
        cases keptN l 0 with
        | none => exact h.mi
        | some n => exact h.mi.del
      · rw [h.pend]
        exact h.mi
    · show a + 1 < (D.free (a + (1 - last))).size
      rw [hs.2.2.1]; exact h.a1
    · show 2 < (D.free (a + (1 - last))).limit
      rw [hs.2.2.2]; exact h.lim
  | 2, _ =>
    left
    refine ⟨by omega, ?_⟩
    have h2 := h.two
    exact ⟨rfl, rfl, rfl, h2.mi, hc, h.a0, h2.a1, h2.lim⟩
  | 3, _ =>
    have h2 := h.two
    have hc3 : ((D.free (a + (1 - last))).sync.write (a + (1 - last)) (recB (num + 1) t)).crash l = (((D.free (a + (1 - last))).sync.put (.wr (a + (1 - last)) (recB (num + 1) t)) (recB (num + 1) t).length).crash l) := by rw [write_view hw]
    have hc' := hc
    rw [show dAt D (a + (1 - last)) (recB (num + 1) t) 3 = (D.free (a + (1 - last))).sync.write (a + (1 - last)) (recB (num + 1) t) from rfl] at hc' ⊢
    rw [hc3] at hc' ⊢
    have hgr : crashF l 0 ((D.free (a + (1 - last))).sync.put (.wr (a + (1 - last)) (recB (num + 1) t)) (recB (num + 1) t).length).pend ((D.free (a + (1 - last))).sync.view, (D.free (a + (1 - last))).sync.nv) =
        match keptN l 0 with | some n => doP ((D.free (a + (1 - last))).sync.view, (D.free (a + (1 - last))).sync.nv) (.wr (a + (1 - last)) (recB (num + 1) t)) n | none => ((D.free (a + (1 - last))).sync.view, (D.free (a + (1 - last))).sync.nv) := rfl
    cases hk : keptN l 0 with
    | none =>
      rw [hk] at hgr
      left
      refine ⟨by omega, rfl, rfl, rfl, ?_, hc', h.a0, h2.a1, h2.lim⟩
      show Mi (crashF l 0 _ _).1 a num last body
      rw [show crashF l 0 ((D.free (a + (1 - last))).sync.put (.wr (a + (1 - last)) (recB (num + 1) t)) (recB (num + 1) t).length).pend (((D.free (a + (1 - last))).sync.put (.wr (a + (1 - last)) (recB (num + 1) t)) (recB (num + 1) t).length).ground, ((D.free (a + (1 - last))).sync.put (.wr (a + (1 - last)) (recB (num + 1) t)) (recB (num + 1) t).length).ng) = _ from hgr]
      exact h2.mi
    | some n =>
      rw [hk] at hgr
      have hv : (((D.free (a + (1 - last))).sync.put (.wr (a + (1 - last)) (recB (num + 1) t)) (recB (num + 1) t).length).crash l).view = (D.free (a + (1 - last))).sync.view.put (a + (1 - last)) (tornB (recB (num + 1) t) [] n) := by
        show (crashF l 0 _ _).1 = _
        rw [show crashF l 0 ((D.free (a + (1 - last))).sync.put (.wr (a + (1 - last)) (recB (num + 1) t)) (recB (num + 1) t).length).pend (((D.free (a + (1 - last))).sync.put (.wr (a + (1 - last)) (recB (num + 1) t)) (recB (num + 1) t).length).ground, ((D.free (a + (1 - last))).sync.put (.wr (a + (1 - last)) (recB (num + 1) t)) (recB (num + 1) t).length).ng) = _ from hgr]
        unfold doP
        simp only
        rw [hx0]
        rfl
      rcases tells_torn hn (Nat.succ_pos num) (by omega) n (t := t) with h3 | h3
      · left
        exact ⟨by omega, rfl, rfl, rfl, by rw [hv]; exact h2.mi.put_none h3, hc', h.a0, h2.a1, h2.lim⟩
      · right
        exact ⟨by omega, rfl, rfl, rfl, by rw [hv, h3]; exact h2.mi.put_new (tells_rec hn (Nat.succ_pos num) (by omega)), hc', h.a0, h2.a1, h2.lim⟩
  | 4, _ =>
    right
    have h2 := h.two
    have hs : ((D.free (a + (1 - last))).sync.write (a + (1 - last)) (recB (num + 1) t)) = (D.free (a + (1 - last))).sync.put (.wr (a + (1 - last)) (recB (num + 1) t)) (recB (num + 1) t).length := write_view hw
    have hc' := hc
    rw [show dAt D (a + (1 - last)) (recB (num + 1) t) 4 = ((D.free (a + (1 - last))).sync.write (a + (1 - last)) (recB (num + 1) t)).sync from rfl] at hc' ⊢
    rw [hs] at hc' ⊢
    refine ⟨by omega, rfl, rfl, rfl, ?_, hc', h.a0, h2.a1, h2.lim⟩
    show Mi ((D.free (a + (1 - last))).sync.put (.wr (a + (1 - last)) (recB (num + 1) t)) (recB (num + 1) t).length).view a (num + 1) (1 - last) t
    rw [put_view]
    exact h2.mi.put_new (tells_rec hn (Nat.succ_pos num) (by omega))
/-- A crash behind three steps, where the write wasn't kept; where all of it was. -/
theorem Mr.crash3 (h : Mr D a num last body) (hn : num + 1 < U64) (ht : t.length ≤ 480) (l : List (Int × Int)) :
    (keptN l 0 = none → Mr ((dAt D (a + (1 - last)) (recB (num + 1) t) 3).crash l) a num last body) ∧
    ∀ n, keptN l 0 = some n → (recB (num + 1) t).length ≤ n.toNat → Mr ((dAt D (a + (1 - last)) (recB (num + 1) t) 3).crash l) a (num + 1) (1 - last) t := by
  have hb := recB_short hn ht
  have hw := h.two.why hb
  have h2 := h.two
  have hc' := (dAt_ok h.ok (a + (1 - last)) (recB (num + 1) t) 3).crash l
  rw [show dAt D (a + (1 - last)) (recB (num + 1) t) 3 = (D.free (a + (1 - last))).sync.write (a + (1 - last)) (recB (num + 1) t) from rfl, write_view hw] at hc' ⊢
  have hgr : crashF l 0 ((D.free (a + (1 - last))).sync.put (.wr (a + (1 - last)) (recB (num + 1) t)) (recB (num + 1) t).length).pend ((D.free (a + (1 - last))).sync.view, (D.free (a + (1 - last))).sync.nv) =
      match keptN l 0 with | some n => doP ((D.free (a + (1 - last))).sync.view, (D.free (a + (1 - last))).sync.nv) (.wr (a + (1 - last)) (recB (num + 1) t)) n | none => ((D.free (a + (1 - last))).sync.view, (D.free (a + (1 - last))).sync.nv) := rfl
  refine ⟨fun hk => ?_, fun n hk hln => ?_⟩
  · rw [hk] at hgr
    refine ⟨rfl, rfl, rfl, ?_, hc', h.a0, h2.a1, h2.lim⟩
    show Mi (crashF l 0 _ _).1 a num last body
    rw [show crashF l 0 ((D.free (a + (1 - last))).sync.put (.wr (a + (1 - last)) (recB (num + 1) t)) (recB (num + 1) t).length).pend (((D.free (a + (1 - last))).sync.put (.wr (a + (1 - last)) (recB (num + 1) t)) (recB (num + 1) t).length).ground, ((D.free (a + (1 - last))).sync.put (.wr (a + (1 - last)) (recB (num + 1) t)) (recB (num + 1) t).length).ng) = _ from hgr]
    exact h2.mi
  · rw [hk] at hgr
    have hv : (((D.free (a + (1 - last))).sync.put (.wr (a + (1 - last)) (recB (num + 1) t)) (recB (num + 1) t).length).crash l).view = (D.free (a + (1 - last))).sync.view.put (a + (1 - last)) (recB (num + 1) t) := by
      show (crashF l 0 _ _).1 = _
      rw [show crashF l 0 ((D.free (a + (1 - last))).sync.put (.wr (a + (1 - last)) (recB (num + 1) t)) (recB (num + 1) t).length).pend (((D.free (a + (1 - last))).sync.put (.wr (a + (1 - last)) (recB (num + 1) t)) (recB (num + 1) t).length).ground, ((D.free (a + (1 - last))).sync.put (.wr (a + (1 - last)) (recB (num + 1) t)) (recB (num + 1) t).length).ng) = _ from hgr]
      unfold doP
      simp only
      unfold tornB
      rw [if_neg (by omega)]
    exact ⟨rfl, rfl, rfl, by rw [hv]; exact h2.mi.put_new (tells_rec hn (Nat.succ_pos num) (by omega)), hc', h.a0, h2.a1, h2.lim⟩
/-- All steps done. -/
theorem Mr.done (h : Mr D a num last body) (hn : num + 1 < U64) (ht : t.length ≤ 480) : Mr (dAt D (a + (1 - last)) (recB (num + 1) t) 4) a (num + 1) (1 - last) t := by
  have hb := recB_short hn ht
  have hw := h.two.why hb
  have h2 := h.two
  have hs : ((D.free (a + (1 - last))).sync.write (a + (1 - last)) (recB (num + 1) t)) = (D.free (a + (1 - last))).sync.put (.wr (a + (1 - last)) (recB (num + 1) t)) (recB (num + 1) t).length := write_view hw
  have hok := dAt_ok h.ok (a + (1 - last)) (recB (num + 1) t) 4
  rw [show dAt D (a + (1 - last)) (recB (num + 1) t) 4 = ((D.free (a + (1 - last))).sync.write (a + (1 - last)) (recB (num + 1) t)).sync from rfl] at hok ⊢
  rw [hs] at hok ⊢
  refine ⟨rfl, rfl, rfl, ?_, hok, h.a0, h2.a1, h2.lim⟩
  show Mi ((D.free (a + (1 - last))).sync.put (.wr (a + (1 - last)) (recB (num + 1) t)) (recB (num + 1) t).length).view a (num + 1) (1 - last) t
  rw [put_view]
  exact h2.mi.put_new (tells_rec hn (Nat.succ_pos num) (by omega))
/-- How far the steps come. -/
def stepI (k : Int) : Nat := if k < 1 then 0 else if k < 2 then 1 else if k < 3 then 2 else if k < 4 then 3 else 4
theorem stepI_le (k : Int) : stepI k ≤ 4 := by unfold stepI; split <;> (try split) <;> (try split) <;> (try split) <;> omega
theorem Mr.steps (h : Mr D a num last body) (hn : num + 1 < U64) (ht : t.length ≤ 480) (k : Int) :
    mtSteps D a num last t k = ⟨dAt D (a + (1 - last)) (recB (num + 1) t) (stepI k), if stepI k = 4 then num + 1 else num, if stepI k = 4 then 1 - last else last, decide (stepI k = 4), 0⟩ := by
  have hb := recB_short hn ht
  have hw := h.two.why hb
  have e : (num + 1) % U64 = num + 1 := Nat.mod_eq_of_lt hn
  unfold mtSteps
  rw [if_neg (by omega), e]
  unfold stepI
  by_cases h1 : k < 1
  · rw [if_pos h1, if_pos h1]; rfl
  · rw [if_neg h1, if_neg h1]
    by_cases h2 : k < 2
    · rw [if_pos h2, if_pos h2]; rfl
    · rw [if_neg h2, if_neg h2]
      by_cases h3 : k < 3
      · rw [if_pos h3, if_pos h3]; rfl
      · rw [if_neg h3, if_neg h3, if_neg (fun hh => hh hw)]
        by_cases h4 : k < 4
        · rw [if_pos h4, if_pos h4]; rfl
        · rw [if_neg h4, if_neg h4]; rfl
end
end Go.Proofs.YtpmndmgfoiagnaaDoor
