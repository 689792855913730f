/- Maps from ints to any values: what stands at each key, how many keys there are. No program is named here. -/
import Derived.Test.YtpmndmgfoiagnaaDoorBase
import Derived.Maps.OwnSet
import Derived.Maps.RangeWalk
namespace Go.Proofs.YtpmndmgfoiagnaaDoor
open Go Go.RowKit Go.WideShapes
open Go.Maps (Keyed)
set_option linter.unusedVariables false
set_option linter.unusedSectionVars false

/-- How an element reads: as itself. -/
def heldR (v : Value) : Option (DataW Value × List MemPlace) := some (.held v, [])
/-- A number that an int may be. -/
def InI (a : Int) : Prop := -9223372036854775808 ≤ a ∧ a ≤ 9223372036854775807
theorem InI.wf {a : Int} (h : InI a) : (Lit.int .i64 a).wf = true := by
  unfold InI at h
  simp only [Lit.wf, Bool.and_eq_true, decide_eq_true_eq]
  exact h
theorem InI.of {a : Int} (h : (Lit.int .i64 a).wf = true) : InI a := by
  simp only [Lit.wf, Bool.and_eq_true, decide_eq_true_eq] at h
  exact h

/-- How many keys there are when one more is put; taken out. -/
def nPut (f : Int → Option Value) (n : Nat) (a : Int) : Nat := if (f a).isSome then n else n + 1
def nDel (f : Int → Option Value) (n : Nat) (a : Int) : Nat := if (f a).isSome then n - 1 else n

section
variable {P : Program} {k : TypeId} {w w' : World} {b n : Nat} {f : Int → Option Value}

/-- Block b is a map from ints: at key a stands f a; n keys in all. -/
def MpV (P : Program) (k : TypeId) (w : World) (b : Nat) (f : Int → Option Value) (n : Nat) : Prop :=
  ∃ D : DataW Value, w.ownsMap P k heldR b n D ∧ Maps.size D = n ∧ ∀ a, InI a → Maps.has D (.int .i64 a) = (f a).isSome ∧ ∀ v, f a = some v → ∀ z, D.atKey (.int .i64 a) z = .held v

theorem own_tight {m : Nat} {D : DataW Value} (h : w.ownsMap P k heldR b m D) : w.ownsMap P k heldR b (Maps.size D) D := by
  obtain ⟨es, clock, hb, F, hs, hD⟩ := h
  have e1 : Maps.size D = es.size := by rw [hD]; simp [Maps.size, length_sorted]
  exact ⟨es, clock, hb, F, by rw [e1]; exact Nat.le_refl _, hD⟩
theorem MpV.lt (h : MpV P k w b f n) : b < w.heap.size := by obtain ⟨D, h1, _⟩ := h; exact h1.lt
theorem MpV.isMap (h : MpV P k w b f n) : ∃ es clock, w.heap[b]? = some (.map es clock) := by
  obtain ⟨D, ⟨es, clock, hb, _⟩, _⟩ := h
  exact ⟨es, clock, hb⟩
theorem MpV.at (h : MpV P k w b f n) (hb : w'.heap[b]? = w.heap[b]?) : MpV P k w' b f n := by
  obtain ⟨D, ⟨es, clock, hb0, F, hs, hD⟩, h2, h3⟩ := h
  exact ⟨D, ⟨es, clock, hb.trans hb0, F, hs, hD⟩, h2, h3⟩
theorem MpV.later (h : MpV P k w b f n) (hb : Below w.heap.size w w') : MpV P k w' b f n := h.at (hb.block b h.lt)
theorem MpV.alloc (h : MpV P k w b f n) (o : Obj) : MpV P k (w.alloc o) b f n := h.at (Below.heap_alloc w o b h.lt)
theorem MpV.drew (h : MpV P k w b f n) : MpV P k w.drew b f n := h
theorem MpV.setCell (h : MpV P k w b f n) {p : Addr} (hp : b ≠ p.block) (u : Value) : MpV P k (w.setCell p u) b f n := h.at (Below.heap_setCell w p u b hp)
theorem MpV.same {g : Int → Option Value} (h : MpV P k w b f n) (hfg : ∀ a, InI a → f a = g a) : MpV P k w b g n := by
  obtain ⟨D, h1, h2, h3⟩ := h
  exact ⟨D, h1, h2, fun a ha => by rw [← hfg a ha]; exact h3 a ha⟩
theorem MpV.made (P : Program) (k : TypeId) (w : World) : MpV P k (w.alloc (.map #[] 0)) w.heap.size (fun _ => none) 0 :=
  ⟨.map [], World.ownsMap_made w P k heldR, rfl, fun a _ => ⟨rfl, fun v h => by cases h⟩⟩

variable (hk : P.underlying k = some (.int .i64))
include hk
theorem key_mk {a : Int} (ha : InI a) : keyOf P k (.int .i64 a) = some (.int .i64 a) := Maps.keyOf_int_mk hk ha.wf

theorem MpV.atv (h : MpV P k w b f n) {D : DataW Value} {a : Int} (ha : InI a) {v z : Value} (h3 : Maps.has D (.int .i64 a) = (f a).isSome ∧ ∀ v, f a = some v → ∀ z, D.atKey (.int .i64 a) z = .held v)
    (hv : DataW.held v = D.atKey (.int .i64 a) (.held z)) : v = (f a).getD z := by
  cases hf : f a with
  | some u =>
    rw [h3.2 u hf] at hv
    injection hv
  | none =>
    have h0 : Maps.has D (.int .i64 a) = false := by rw [h3.1, hf]; rfl
    rw [Maps.atKey_of_not_has h0] at hv
    injection hv
/-- 'v, ok := m[a]'. -/
theorem MpV.look {t e : TypeId} (h : MpV P k w b f n) (ht : P.underlying t = some (.map k e)) {z : Value} (hz : (zeroValue e).run P w = .ok z w) {a : Int} (ha : InI a) :
    (Instr.lookup t (.map (some b)) (.int .i64 a) true).run P w = .ok (.tuple #[(f a).getD z, .bool (f a).isSome]) w := by
  have h0 := h
  obtain ⟨D, h1, h2, h3⟩ := h
  obtain ⟨v, ps, hrun, hv⟩ := h1.look_ok (Maps.int_keyed hk) ht hz (zd := .held z) (zp := []) rfl (key_mk hk ha)
  simp only [heldR, Option.some.injEq, Prod.mk.injEq] at hv
  rw [hrun, h0.atv hk ha (h3 a ha) hv.1, (h3 a ha).1]
/-- 'm[a]'. -/
theorem MpV.look1 {t e : TypeId} (h : MpV P k w b f n) (ht : P.underlying t = some (.map k e)) {z : Value} (hz : (zeroValue e).run P w = .ok z w) {a : Int} (ha : InI a) :
    (Instr.lookup t (.map (some b)) (.int .i64 a) false).run P w = .ok ((f a).getD z) w := by
  have h0 := h
  obtain ⟨D, h1, h2, h3⟩ := h
  obtain ⟨v, ps, hrun, hv⟩ := h1.lookup (Maps.int_keyed hk) ht hz (zd := .held z) (zp := []) rfl (key_mk hk ha)
  simp only [heldR, Option.some.injEq, Prod.mk.injEq] at hv
  rw [hrun, h0.atv hk ha (h3 a ha) hv.1]
/-- 'len(m)'. -/
theorem MpV.len {t e : TypeId} (h : MpV P k w b f n) (ht : P.underlying t = some (.map k e)) (ty : TypeId) : (Builtin.len_ #[t] ty #[.map (some b)]).run P w = .ok (.int .i64 (n : Int)) w := by
  obtain ⟨D, h1, h2, h3⟩ := h
  rw [h1.len ht ty, h2]
/-- 'm[a] = v'. -/
theorem MpV.put {t e : TypeId} (h : MpV P k w b f n) (ht : P.underlying t = some (.map k e)) (hn : n < maxLen) {a : Int} (ha : InI a) (v : Value) :
    ∃ w', (Instr.mapUpdate t (.map (some b)) (.int .i64 a) v).run P w = .ok () w' ∧ MpV P k w' b (fun x => if x = a then some v else f x) (nPut f n a) ∧ w.mapTurned w' b := by
  obtain ⟨D, h1, h2, h3⟩ := h
  have K := Maps.int_keyed hk
  have ht' := h1.tidy K
  have hkl : WideAt.IsKeyLit (.int .i64 a) := K.key (key_mk hk ha)
  obtain ⟨w', hrun, h1', hturn⟩ := h1.store K ht hn (key_mk hk ha) (d := .held v) (ps := []) rfl
  have hsz : Maps.size (D.put (.int .i64 a) (.held v)) = nPut f n a := by
    rw [Maps.size_put ht', (h3 a ha).1, h2]
    unfold nPut
    cases f a <;> rfl
  refine ⟨w', hrun, ⟨_, by rw [← hsz]; exact own_tight h1', hsz, fun x hx => ?_⟩, hturn⟩
  by_cases hxa : x = a
  · subst hxa
    refine ⟨by rw [Maps.has_put_same ht'.isMap hkl]; simp, fun u hu z => ?_⟩
    simp only [if_true, Option.some.injEq] at hu
    subst hu
    exact Maps.atKey_put_same ht'.isMap hkl _ _
  · have hne : Lit.int .i64 x ≠ .int .i64 a := fun e => hxa (by injection e)
    refine ⟨by rw [Maps.has_put_other hne, (h3 x hx).1]; simp only [hxa, if_false], fun u hu z => ?_⟩
    simp only [hxa, if_false] at hu
    rw [Maps.atKey_put_other hne]
    exact (h3 x hx).2 u hu z
/-- 'delete(m, a)'. -/
theorem MpV.del {t e : TypeId} (h : MpV P k w b f n) (ht : P.underlying t = some (.map k e)) {a : Int} (ha : InI a) (ty : TypeId) :
    ∃ w', (Builtin.delete_ #[t, k] ty #[.map (some b), .int .i64 a]).run P w = .ok (.tuple #[]) w' ∧ MpV P k w' b (fun x => if x = a then none else f x) (nDel f n a) ∧ w.mapTurned w' b := by
  obtain ⟨D, h1, h2, h3⟩ := h
  have K := Maps.int_keyed hk
  have ht' := h1.tidy K
  obtain ⟨w', hrun, h1', hturn⟩ := h1.drop K ht (key_mk hk ha) ty
  have hsz : Maps.size (D.del (.int .i64 a)) = nDel f n a := by
    have := Maps.size_del (k := .int .i64 a) ht'
    rw [(h3 a ha).1, h2] at this
    unfold nDel
    cases hf : f a with
    | none => rw [hf] at this; simpa using this
    | some u =>
      rw [hf] at this
      simp only [Option.isSome_some, if_true] at this ⊢
      omega
  refine ⟨w', hrun, ⟨_, by rw [← hsz]; exact own_tight h1', hsz, fun x hx => ?_⟩, hturn⟩
  by_cases hxa : x = a
  · subst hxa
    exact ⟨by rw [Maps.has_del_same]; simp, fun u hu z => by simp at hu⟩
  · have hne : Lit.int .i64 x ≠ .int .i64 a := fun e => hxa (by injection e)
    refine ⟨by rw [Maps.has_del_other hne, (h3 x hx).1]; simp only [hxa, if_false], fun u hu z => ?_⟩
    simp only [hxa, if_false] at hu
    rw [Maps.atKey_del_other hne]
    exact (h3 x hx).2 u hu z

omit hk
theorem nodup_sub {α : Type} [BEq α] [LawfulBEq α] : ∀ {l l' : List α}, l.Nodup → (∀ x ∈ l, x ∈ l') → l.length ≤ l'.length
  | [], l', _, _ => Nat.zero_le _
  | x :: r, l', hn, h => by
    rw [List.nodup_cons] at hn
    have hx := h x (by simp)
    have ih := nodup_sub (l := r) (l' := l'.erase x) hn.2 fun y hy => (List.mem_erase_of_ne (by rintro rfl; exact hn.1 hy)).2 (h y (by simp [hy]))
    rw [List.length_erase_of_mem hx] at ih
    have : 0 < l'.length := List.length_pos_of_mem hx
    rw [List.length_cons]
    omega
/-- So many keys as one can name. -/
theorem MpV.ge (h : MpV P k w b f n) (hk : P.underlying k = some (.int .i64)) {l : List Int} (hn : l.Nodup) (hl : ∀ x ∈ l, InI x ∧ (f x).isSome = true) : l.length ≤ n := by
  obtain ⟨D, h1, h2, h3⟩ := h
  obtain ⟨es, rfl⟩ := (h1.tidy (Maps.int_keyed hk)).isMap
  have h4 := nodup_sub (α := Int) (l := l) (l' := es.filterMap fun p => match p.1 with | .int _ x => some x | _ => none) hn fun x hx => by
    have h5 := (h3 x (hl x hx).1).1
    rw [(hl x hx).2, Maps.has_eq, List.any_eq_true] at h5
    obtain ⟨p, hp, hs⟩ := h5
    have h6 := WideAt.sameKey_eq hs
    exact List.mem_filterMap.2 ⟨p, hp, by rw [h6]⟩
  have h5 := List.length_filterMap_le (fun p : Lit × DataW Value => match p.1 with | .int _ x => some x | _ => none) es
  rw [Maps.size_eq] at h2
  omega

/-! ### range -/
/-- 'for a, v := range m' under way: those with 'left' are to come, cnt in all. -/
def RgV (P : Program) (k : TypeId) (w : World) (b r : Nat) (f : Int → Option Value) (n : Nat) (left : Int → Bool) (cnt : Nat) : Prop :=
  ∃ (D : DataW Value) (lf : Lit → Bool), w.ranges P k heldR b r n D lf cnt ∧ Maps.size D = n ∧ (∀ a, InI a → Maps.has D (.int .i64 a) = (f a).isSome ∧ ∀ v, f a = some v → ∀ z, D.atKey (.int .i64 a) z = .held v) ∧ ∀ a, left a = true ↔ InI a ∧ lf (.int .i64 a) = true
variable {r cnt : Nat} {left : Int → Bool}
theorem RgV.map (h : RgV P k w b r f n left cnt) : MpV P k w b f n := by
  obtain ⟨D, lf, h1, h2, h3, _⟩ := h
  exact ⟨D, h1.owns, h2, h3⟩
theorem RgV.left_eq (h : RgV P k w b r f n left cnt) : w.rangeLeft b r = cnt := by
  obtain ⟨D, lf, h1, _⟩ := h
  exact h1.left_eq
theorem RgV.lt (h : RgV P k w b r f n left cnt) : r < w.heap.size := by
  obtain ⟨D, lf, h1, _⟩ := h
  exact h1.lt
theorem RgV.kept {row : Option Nat} (h : RgV P k w b r f n left cnt) (hg : w.grownBy w' row) (hb : some b ≠ row) (hr : some r ≠ row) : RgV P k w' b r f n left cnt := by
  obtain ⟨D, lf, h1, h2, h3, h4⟩ := h
  exact ⟨D, lf, h1.kept hg hb hr, h2, h3, h4⟩

variable {ops : Array Oper} {rest : List Oper} {o : Oper} {a : Act} {Q : Exit → Act → World → Prop}
theorem wpList_range_mp (w : World) (hg : o.guard = none) (m : Operand) (t : TypeId) (hop : o.op = Op.range t m) (hk : P.underlying k = some (.int .i64)) {e : TypeId} (ht : P.underlying t = some (.map k e))
    (hm : a.eval m = .map (some b)) (h : MpV P k w b f n) (left : Int → Bool) (hl : ∀ a, left a = true ↔ InI a ∧ (f a).isSome = true)
    (hK : ∀ w', RgV P k w' b w.heap.size f n left n → w.grownBy w' none → w'.heap.size = w.heap.size + 1 → wpList P ops Q rest (a.put o.dst (.pointer (some ⟨w.heap.size, 0, none⟩))) w') : wpList P ops Q (o :: rest) a w := by
  obtain ⟨D, h1, h2, h3⟩ := h
  refine wpList_range_own w hg m t hop k e (Maps.int_keyed hk) ht heldR b n D hm h1 fun w' hr hgr hsz => hK w' ⟨D, _, by rw [h2] at hr; exact hr, h2, h3, fun a => ?_⟩ hgr hsz
  rw [hl]
  exact ⟨fun ⟨ha, hf⟩ => ⟨ha, by rw [(h3 a ha).1]; exact hf⟩, fun ⟨ha, hf⟩ => ⟨ha, by rw [(h3 a ha).1] at hf; exact hf⟩⟩
theorem wpList_next_mp (w : World) (hg : o.guard = none) (it : Operand) (hop : o.op = Op.next it false) (hk : P.underlying k = some (.int .i64))
    (hit : a.eval it = .pointer (some ⟨r, 0, none⟩)) (h : RgV P k w b r f n left cnt)
    (hDone : cnt = 0 → (∀ x, left x = false) → wpList P ops Q rest (a.put o.dst (.tuple #[.bool false])) w)
    (hMore : ∀ (x : Int) (c : Value) (w' : World) (cnt' : Nat), InI x → left x = true → f x = some c → RgV P k w' b r f n (fun z => left z && !(z == x)) cnt' → cnt' < cnt →
      w.grownBy w' (some r) → w'.heap.size = w.heap.size → (Instr.entry (.pointer (some ⟨r, 0, none⟩))).run P w' = .ok (.tuple #[.int .i64 x, c]) w' → wpList P ops Q rest (a.put o.dst (.tuple #[.bool true, .int .i64 x, c])) w') : wpList P ops Q (o :: rest) a w := by
  obtain ⟨D, lf, h1, h2, h3, h4⟩ := h
  refine wpList_next_ranges w hg it hop k (Maps.int_keyed hk) heldR (Value.int .i64) id (fun key kl hkey => by obtain ⟨x, rfl, _⟩ := Maps.keyOf_int_inv hk hkey; exact ⟨x, rfl⟩) (fun v y _ => ⟨v, rfl⟩) b r n D lf cnt hit h1
    (fun h0 hl => hDone h0 fun x => ?_) (fun x c kl y w' cnt' hkey hlk hv hat hrg hlt hgr hsz hen => ?_)
  · cases hx : left x with
    | false => rfl
    | true => have := ((h4 x).1 hx).2; rw [hl] at this; cases this
  · obtain ⟨x', ex, rfl, hwx⟩ := Maps.keyOf_int_inv hk hkey
    cases ex
    have hx := InI.of hwx
    simp only [heldR, Option.some.injEq] at hv
    subst hv
    have hfx : f x = some c := by
      cases hf : f x with
      | some u =>
        have e1 := (h3 x hx).2 u hf (.held c)
        rw [hat] at e1
        simp only [id] at e1
        injection e1 with e1
        rw [e1]
      | none =>
        have h0 : Maps.has D (.int .i64 x) = false := by rw [(h3 x hx).1, hf]; rfl
        have e1 := Maps.atKey_of_not_has h0 (z := DataW.nil)
        rw [hat] at e1
        cases e1
    refine hMore x c w' cnt' hx ((h4 x).2 ⟨hx, hlk⟩) hfx ⟨D, _, hrg, h2, h3, fun z => ?_⟩ hlt hgr hsz hen
    simp only [Bool.and_eq_true, Bool.not_eq_true', h4 z]
    constructor
    · rintro ⟨⟨hz, hlf⟩, hne⟩
      exact ⟨hz, hlf, Maps.sameKey_ne (fun e => by injection e with _ e; simp [e] at hne)⟩
    · rintro ⟨hz, hlf, hne⟩
      refine ⟨⟨hz, hlf⟩, ?_⟩
      rw [beq_eq_false_iff_ne]
      rintro rfl
      simp [Lit.sameKey] at hne
end
end Go.Proofs.YtpmndmgfoiagnaaDoor
