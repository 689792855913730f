/- What the proof of TreeOpens needs, part 6. -/
import Derived.Test.YthbhkdhljlganaaGreatDoorTreeOpensJ4
import Derived.Test.YthbhkdhljlganaaGreatDoorTreeOpensJ5
import Derived.Deep.MidRow
import Derived.RegionTactic
import Derived.BigRegion
import Derived.Deep.QuietTactic
import Derived.BigQuiet
import Derived.Lib.SlKeysI

namespace Go.Proofs.YthbhkdhljlganaaGreatDoor
open Go Go.RowKit
set_option linter.unusedVariables false

/-- The space l lies in block g. -/
def Sp (w : World) (g : Nat) (l : List Bool) : Prop := Blk w g 215 (spC l) ∧ 1 ≤ l.length ∧ l.length ≤ 256
theorem Sp.grown {w w' : World} {g : Nat} {l : List Bool} {row : Option Nat} (h : Sp w g l) (hb : w.grownBy w' row) (hg : row ≠ some g) : Sp w' g l := ⟨h.1.grown hb hg, h.2⟩
/-- Only block g was written. -/
theorem grown_set (w : World) (g i : Nat) (u : Value) : w.grownBy (w.setCell ⟨g, i, none⟩ u) (some g) :=
  ⟨rfl, rfl, rfl, by simp, fun k _ hk => heap_setCell_other w ⟨g, i, none⟩ k u (fun e => hk (by simp [e]))⟩
theorem grown_drewA {w w' : World} {row : Option Nat} (h : w.grownBy w' row) (n : Nat) : w.grownBy (w'.drewN n) row := ⟨h.os, h.tape, h.output, h.size, h.block⟩

theorem word_test (l : List Bool) (k : Nat) (hk : k < l.length) : (bits .and .u64 ((wordAt l (k / 64) : Int) / 2 ^ (k % 64)) 1 == 1) = l.getD k false := by
  have hw := wordAt_lt l (k / 64)
  have hb := wordAt_bit l (k / 64) (k % 64) (by omega)
  rw [show 64 * (k / 64) + k % 64 = k by omega] at hb
  have e : ((wordAt l (k / 64) : Int) / 2 ^ (k % 64)) = ((wordAt l (k / 64) / 2 ^ (k % 64) : Nat) : Int) := by rw [Int.natCast_ediv, Int.natCast_pow]; rfl
  have hle : wordAt l (k / 64) / 2 ^ (k % 64) ≤ wordAt l (k / 64) := Nat.div_le_self _ _
  have h := u64_and_nat (wordAt l (k / 64) / 2 ^ (k % 64)) 1 (by omega) (by omega)
  rw [e, show (1 : Int) = ((1 : Nat) : Int) from rfl, h, Nat.and_one_is_mod, ← hb, Nat.testBit_eq_decide_div_mod_eq]
  rcases Nat.mod_two_eq_zero_or_one (wordAt l (k / 64) / 2 ^ (k % 64)) with h | h <;> rw [h] <;> rfl

set_option maxHeartbeats 400000 in
theorem has_any (g : Nat) (l : List Bool) (p : Int) (w : World) (hs : Sp w g l) (hp : -9223372036854775808 ≤ p ∧ p ≤ 9223372036854775807) :
    Calls Tryz.prog 123 #[.pointer (some ⟨g, 0, none⟩), .int .i64 p] w fun e w' => e = .returned (.bool (hasB l p)) ∧ w = w' := by
  obtain ⟨hb, hl1, hl2⟩ := hs
  have c0 := hb.cell 0
  have hc0 : w.cell? ⟨g, 0, none⟩ = some (.int .i64 (l.length : Int)) := c0
  clear c0
  by_cases h0 : 0 ≤ p
  · by_cases h1 : p < (l.length : Int)
    · obtain ⟨k, rfl⟩ : ∃ k : Nat, p = (k : Int) := ⟨p.toNat, by omega⟩
      have hk : k < l.length := by omega
      have hcw : w.cell? ⟨g, 1 + k / 64, none⟩ = some (.int .u64 (wordAt l (k / 64) : Int)) := (hb.cell _).trans (spC_word l _ (by omega))
      have HT := Lib.hid (word_test l k hk)
      have HH := Lib.hid (hasB_nat l k)
      clear hb h0 h1
      go_enter Tryz.func123, Tryz.ntmps123
      go_wp2_with fail
      go_ret
      rw [HH.out, ← HT.out]
      exact ⟨rfl, rfl⟩
    · have HH : Hid (hasB l p = false) := by unfold hasB; rw [show decide (p < (l.length : Int)) = false by rw [decide_eq_false_iff_not]; exact h1]; simp [Hid]
      clear hb
      go_enter Tryz.func123, Tryz.ntmps123
      go_wp2_with fail
      go_ret
      rw [HH.out]
      exact ⟨rfl, rfl⟩
  · have HH : Hid (hasB l p = false) := by unfold hasB; rw [show decide (0 ≤ p) = false by rw [decide_eq_false_iff_not]; exact h0]; simp [Hid]
    clear hb
    go_enter Tryz.func123, Tryz.ntmps123
    go_wp2_with fail
    go_ret
    rw [HH.out]
    exact ⟨rfl, rfl⟩

theorem xor_word (l : List Bool) (k : Nat) : bits .xor .u64 (wordAt l (k / 64) : Int) (IntKind.u64.wrap ((2 : Int) ^ (k % 64))) = ((wordAt l (k / 64) ^^^ 2 ^ (k % 64) : Nat) : Int) := by
  have h1 : 2 ^ (k % 64) < 18446744073709551616 := Nat.pow_lt_pow_right (a := 2) (m := k % 64) (n := 64) (by omega) (by omega)
  have h2 := bits_xor_u64_nat (wordAt l (k / 64)) (2 ^ (k % 64)) (wordAt_lt _ _) h1
  have h3 : IntKind.u64.wrap ((2 : Int) ^ (k % 64)) = ((2 ^ (k % 64) : Nat) : Int) := by
    have e : ((2 : Int) ^ (k % 64)) = ((2 ^ (k % 64) : Nat) : Int) := by rw [Int.natCast_pow]; rfl
    rw [e]
    generalize 2 ^ (k % 64) = q at *
    exact wrap_u64 (by omega) (by unfold U64; omega)
  rw [h3]
  exact h2
set_option maxHeartbeats 1000000 in
theorem turn_any (g : Nat) (l : List Bool) (k : Nat) (w : World) (hs : Sp w g l) (hk : k < l.length) :
    Calls Tryz.prog 124 #[.pointer (some ⟨g, 0, none⟩), .int .i64 k] w fun e w' => e = .returned (.tuple #[]) ∧ Sp w' g (flipAt l k) ∧ w.grownBy w' (some g) ∧ w'.heap.size = w.heap.size := by
  obtain ⟨hb, hl1, hl2⟩ := hs
  have hcw : w.cell? ⟨g, 1 + k / 64, none⟩ = some (.int .u64 (wordAt l (k / 64) : Int)) := (hb.cell _).trans (spC_word l _ (by omega))
  have hfz := hb.free (1 + k / 64)
  have HX := Lib.hid (xor_word l k)
  have hk4 : k / 64 < 4 := by omega
  have HB := Lib.hid hb
  clear hb
  go_enter Tryz.func124, Tryz.ntmps124
  go_wp2_with fail
  go_region
  go_end0
  rw [HX.out]
  refine ⟨rfl, ⟨?_, by rw [flipAt_length]; exact hl1, by rw [flipAt_length]; exact hl2⟩, grown_drewA (grown_set _ _ _ _) 1, by simp⟩
  rw [← spC_flip l k hk (by omega)]
  exact (HB.out.put (1 + k / 64) _).drew

/-- Only the space in block g was written: it is l now. -/
def SpPost (g : Nat) (l : List Bool) (w w' : World) : Prop := Sp w' g l ∧ w.grownBy w' (some g) ∧ w'.heap.size = w.heap.size
theorem SpPost.same {g : Nat} {l : List Bool} {w : World} (h : Sp w g l) : SpPost g l w w := ⟨h, World.grownBy.refl w _, rfl⟩

set_option maxHeartbeats 400000 in
theorem claim_any (g : Nat) (l : List Bool) (p : Int) (w : World) (hs : Sp w g l) (hp : -9223372036854775808 ≤ p ∧ p ≤ 9223372036854775807) :
    Calls Tryz.prog 81 #[.pointer (some ⟨g, 0, none⟩), .int .i64 p] w fun e w' => e = .returned (.int .i64 ((claimB l p).2 : Int)) ∧ SpPost g (claimB l p).1 w w' := by
  have HS := Lib.hid hs
  have hc0 : w.cell? ⟨g, 0, none⟩ = some (.int .i64 (l.length : Int)) := hs.1.cell 0
  obtain ⟨hb, hl1, hl2⟩ := hs
  clear hb
  by_cases h0 : p < 0
  · have HC : Hid (claimB l p = (l, 92)) := by unfold claimB; rw [if_pos (.inl h0)]; rfl
    go_enter Tryz.func81, Tryz.ntmps81
    go_wp2_with fail
    go_ret
    rw [HC.out]
    exact ⟨rfl, .same HS.out⟩
  · by_cases h1 : (l.length : Int) ≤ p
    · have HC : Hid (claimB l p = (l, 92)) := by unfold claimB; rw [if_pos (.inr (.inl h1))]; rfl
      go_enter Tryz.func81, Tryz.ntmps81
      go_wp2_with fail
      go_ret
      rw [HC.out]
      exact ⟨rfl, .same HS.out⟩
    · obtain ⟨k, rfl⟩ : ∃ k : Nat, p = (k : Int) := ⟨p.toNat, by omega⟩
      have hk : k < l.length := by omega
      cases hh : hasB l (k : Int)
      · have HC : Hid (claimB l k = (flipAt l k, 0)) := by unfold claimB; rw [if_neg (by rw [hh]; intro h; rcases h with h | h | h; omega; omega; cases h)]; rfl
        have HH := Lib.hid hh
        clear hh
        go_enter Tryz.func81, Tryz.ntmps81
        go_wp2_with fail
        refine (has_any g l k w HS.out hp).mono ?_
        rintro e w1 ⟨rfl, rfl⟩
        rw [HH.out]
        go_wp2_with fail
        refine (turn_any g l k w HS.out hk).mono ?_
        rintro e w1 ⟨rfl, hsp, hgr, hsz⟩
        go_wp2_with fail
        go_ret
        rw [HC.out]
        exact ⟨rfl, hsp, hgr, hsz⟩
      · have HC : Hid (claimB l k = (l, 92)) := by unfold claimB; rw [if_pos (.inr (.inr hh))]; rfl
        have HH := Lib.hid hh
        clear hh
        go_enter Tryz.func81, Tryz.ntmps81
        go_wp2_with fail
        refine (has_any g l k w HS.out hp).mono ?_
        rintro e w1 ⟨rfl, rfl⟩
        rw [HH.out]
        go_wp2_with fail
        go_ret
        rw [HC.out]
        exact ⟨rfl, .same HS.out⟩
theorem spC_new (n : Nat) : spC (List.replicate n false) = #[.int .i64 (n : Int), .int .u64 0, .int .u64 0, .int .u64 0, .int .u64 0] := by
  have h : ∀ i, wordAt (List.replicate n false) i = 0 := by
    intro i
    apply Nat.eq_of_testBit_eq
    intro j
    rw [Nat.zero_testBit]
    unfold wordAt
    rw [wordL_bit, List.getD_eq_getElem?_getD, List.getElem?_take]
    split
    · rw [List.getElem?_drop, List.getElem?_replicate]
      split <;> rfl
    · rfl
  unfold spC
  rw [h, h, h, h, List.length_replicate]
  rfl
set_option maxHeartbeats 400000 in
theorem new_ok (n : Nat) (w : World) (h1 : 1 ≤ n) (h2 : n ≤ 256) :
    Calls Tryz.prog 78 #[.int .i64 n] w fun e w' => e = .returned (.tuple #[.pointer (some ⟨w.heap.size, 0, none⟩), .int .i64 0]) ∧ Sp w' w.heap.size (List.replicate n false) ∧ Below w.heap.size w w' := by
  go_enter Tryz.func78, Tryz.ntmps78
  go_wp2_with fail
  go_ret2
  refine ⟨rfl, ⟨?_, by simpa using h1, by simpa using h2⟩, (Below.refl _ _).alloc (Nat.le_refl _) _⟩
  rw [spC_new]
  exact Blk.new _ _ _
end Go.Proofs.YthbhkdhljlganaaGreatDoor

namespace Go.Proofs.YthbhkdhljlganaaGreatDoor
open Go Go.RowKit
set_option linter.unusedVariables false

/-- An int's number (the library has another function of this name). -/
def intOf : Value → Int | .int _ q => q | _ => 0
theorem tbTy : Tryz.prog.underlying 88 = some (.map 3 161) := Tryz.underlying88
theorem wrTy : Tryz.prog.underlying 72 = some (.map 3 31) := Tryz.underlying72
theorem gnTy : Tryz.prog.underlying 89 = some (.map 3 3) := Tryz.underlying89
theorem zeroPl (w : World) : (zeroValue 161).run Tryz.prog w = .ok (.agg #[.int .i64 0, .int .i64 0]) w := by kernel_rfl
theorem zeroIn (w : World) : (zeroValue 3).run Tryz.prog w = .ok (.int .i64 0) w := by kernel_rfl

/-! ### Maps with pages for keys -/
theorem MpV.ids {P : Program} {k : TypeId} {w : World} {b n : Nat} {f : Int → Option Value} {α : Type} {g : Int → Option α} (hk : P.underlying k = some (.int .i64)) (h : MpV P k w b f n) (hfg : ∀ x, InI x → (f x).isSome = (g x).isSome) (h90 : In90 g) :
    n = (idsOf g).length ∧ ∃ D, w.ownsMap P k heldR b n D ∧ ((idsOf g).map fun i : Nat => (i : Int)).Perm (intKeys D) ∧ Maps.size D = n := by
  obtain ⟨D, h1, h2, h3⟩ := h
  have hperm : ((idsOf g).map fun i : Nat => (i : Int)).Perm (intKeys D) := by
    obtain ⟨es, hD, hpw, _⟩ := h1.entries (Maps.int_keyed hk)
    obtain ⟨es', hD', hko⟩ := h1.keysOf
    obtain rfl : es = es' := by rw [hD] at hD'; simpa using hD'
    have hwf := intKeys_wf h1 hk
    subst hD
    have hkk : ∀ p ∈ es, ∃ x, p.1 = .int .i64 x := fun p hp => by obtain ⟨v, hv⟩ := hko p hp; obtain ⟨x, _, hx, _⟩ := Maps.keyOf_i64 hk hv; exact ⟨x, hx⟩
    refine perm_intKeys hpw hkk (List.Pairwise.imp (fun h => by omega) (List.pairwise_map.2 ((ids_lt g).imp fun (h : _ < _) => (by omega : ((_ : Nat) : Int) < ((_ : Nat) : Int))))) fun x => ?_
    by_cases hx : InI x
    · rw [(h3 x hx).1, hfg x hx, List.mem_map]
      constructor
      · rintro ⟨i, hi, rfl⟩
        exact (mem_ids.1 hi).2
      · intro hs
        have := h90 x hs
        exact ⟨x.toNat, mem_ids.2 ⟨by omega, by rw [show ((x.toNat : Nat) : Int) = x by omega]; exact hs⟩, by omega⟩
    · constructor
      · intro hm
        obtain ⟨i, hi, rfl⟩ := List.mem_map.1 hm
        have := (mem_ids.1 hi).1
        exact absurd (by unfold InI; omega) hx
      · intro hs
        rw [Maps.has_eq, List.any_eq_true] at hs
        obtain ⟨p, hp, hs⟩ := hs
        have h6 := WideAt.sameKey_eq hs
        refine absurd (InI.of (hwf x (List.mem_map.2 ⟨p, hp, ?_⟩))) hx
        rw [h6]; rfl
  refine ⟨?_, D, h1, hperm, h2⟩
  have h4 := hperm.length_eq
  rw [List.length_map] at h4
  rw [h4, ← h2]
  obtain ⟨es, rfl⟩ := h1.isMap
  simp [intKeys, Maps.size]

def plV (x : Nat × Nat) : Value := .agg #[.int .i64 (x.1 : Int), .int .i64 (x.2 : Int)]
def tbV (t : TF) : Int → Option Value := fun a => (t a).map plV
def gnV (g : Int → Bool) : Int → Option Value := fun a => if g a then some (.int .i64 a) else none
structure Tbl (w : World) (b : Nat) (t : TF) : Prop where
  in90 : In90 t
  mp : MpV Tryz.prog 3 w b (tbV t) (idsOf t).length
structure Wrt (w : World) (b : Nat) (f : SF) : Prop where
  in90 : In90 f
  mp : Secs w b f (idsOf f).length
structure Gon (w : World) (b : Nat) (g : Int → Bool) : Prop where
  in90 : In90 (gnV g)
  mp : MpV Tryz.prog 3 w b (gnV g) (idsOf (gnV g)).length
theorem tbV_some (t : TF) (x : Int) : (tbV t x).isSome = (t x).isSome := by unfold tbV; cases t x <;> rfl
theorem tbV_get (t : TF) (x : Int) : (tbV t x).getD (.agg #[.int .i64 0, .int .i64 0]) = plV ((t x).getD (0, 0)) := by unfold tbV; cases t x <;> rfl
theorem gnV_some (g : Int → Bool) (x : Int) : (gnV g x).isSome = g x := by unfold gnV; cases g x <;> rfl
theorem ids_none {α : Type} : (idsOf (fun _ => (none : Option α))).length = 0 := by
  have : idsOf (fun _ => (none : Option α)) = [] := by unfold idsOf; simp
  rw [this]; rfl
section
variable {w w' : World} {b : Nat} {t : TF} {f : SF} {g : Int → Bool}
theorem Tbl.made (w : World) : Tbl (w.alloc (.map #[] 0)) w.heap.size (fun _ => none) := ⟨fun x h => (by cases h), by rw [ids_none]; exact MpV.made _ _ w⟩
theorem Wrt.made (w : World) : Wrt (w.alloc (.map #[] 0)) w.heap.size (fun _ => none) := ⟨fun x h => (by cases h), by rw [ids_none]; exact Secs.made w⟩
theorem gnV_no : gnV (fun _ => false) = fun _ => none := by funext a; rfl
theorem Gon.made (w : World) : Gon (w.alloc (.map #[] 0)) w.heap.size (fun _ => false) := by
  refine ⟨?_, ?_⟩ <;> rw [gnV_no]
  · exact fun x h => (by cases h)
  · rw [ids_none]; exact MpV.made _ _ w
theorem Tbl.later (h : Tbl w b t) (hb : Below w.heap.size w w') : Tbl w' b t := ⟨h.in90, h.mp.later hb⟩
theorem Wrt.later (h : Wrt w b f) (hb : Below w.heap.size w w') : Wrt w' b f := ⟨h.in90, h.mp.later hb⟩
theorem Gon.later (h : Gon w b g) (hb : Below w.heap.size w w') : Gon w' b g := ⟨h.in90, h.mp.later hb⟩
theorem Tbl.lt (h : Tbl w b t) : b < w.heap.size := h.mp.lt
theorem Wrt.lt (h : Wrt w b f) : b < w.heap.size := h.mp.lt
theorem Gon.lt (h : Gon w b g) : b < w.heap.size := h.mp.lt
theorem Tbl.kind (h : Tbl w b t) : kindAt w b = some none := kind_map h.mp
theorem Wrt.kind (h : Wrt w b f) : kindAt w b = some none := h.mp.kind
theorem Gon.kind (h : Gon w b g) : kindAt w b = some none := kind_map h.mp
theorem ids90 {α : Type} (f : Int → Option α) : (idsOf f).length < maxLen := by have := ids_le f; unfold maxLen; omega
theorem in90_i {x : Int} (h0 : 0 ≤ x) (h1 : x < 90) : InI x := by unfold InI; omega
/-- 'table[a] = place'. -/
theorem Tbl.put (h : Tbl w b t) {a : Int} (h0 : 0 ≤ a) (h1 : a < 90) (x : Nat × Nat) :
    ∃ w', (Instr.mapUpdate 88 (.map (some b)) (.int .i64 a) (.agg #[.int .i64 (x.1 : Int), .int .i64 (x.2 : Int)])).run Tryz.prog w = .ok () w' ∧ Tbl w' b (t.put a x) ∧ w.mapTurned w' b := by
  obtain ⟨w', h3, h4, h5⟩ := h.mp.put intTy tbTy (ids90 _) (in90_i h0 h1) (.agg #[.int .i64 (x.1 : Int), .int .i64 (x.2 : Int)])
  have e : (fun y => if y = a then some (Value.agg #[.int .i64 (x.1 : Int), .int .i64 (x.2 : Int)]) else tbV t y) = tbV (t.put a x) := by
    funext y
    unfold tbV TF.put
    by_cases hy : y = a
    · simp only [hy, if_true]; rfl
    · simp only [hy, if_false]
  have h90 : In90 (t.put a x) := fun y hy => by
    unfold TF.put at hy
    split at hy
    · omega
    · exact h.in90 y hy
  rw [e] at h4
  have h6 := (h4.ids intTy (g := t.put a x) (fun y _ => tbV_some _ y) h90).1
  rw [h6] at h4
  exact ⟨w', h3, ⟨h90, h4⟩, h5⟩
/-- 'delete(gone, a)'. -/
theorem Gon.del (h : Gon w b g) {a : Int} (ha : InI a) (ty : TypeId) :
    ∃ w', (Builtin.delete_ #[89, 3] ty #[.map (some b), .int .i64 a]).run Tryz.prog w = .ok (.tuple #[]) w' ∧ Gon w' b (gnPut g a false) ∧ w.mapTurned w' b := by
  obtain ⟨w', h3, h4, h5⟩ := h.mp.del intTy gnTy ha ty
  have e : (fun y => if y = a then none else gnV g y) = gnV (gnPut g a false) := by
    funext y
    unfold gnV gnPut
    by_cases hy : y = a
    · simp only [hy, if_true]; rfl
    · simp only [hy, if_false]
  have h90 : In90 (gnV (gnPut g a false)) := fun y hy => by
    rw [gnV_some] at hy
    unfold gnPut at hy
    split at hy
    · cases hy
    · exact h.in90 y (by rw [gnV_some]; exact hy)
  rw [e] at h4
  have h6 := (h4.ids intTy (g := gnV (gnPut g a false)) (fun y _ => rfl) h90).1
  rw [h6] at h4
  exact ⟨w', h3, ⟨h90, h4⟩, h5⟩
/-- 'written[a] = b'. -/
theorem Wrt.put (h : Wrt w b f) {a : Int} (h0 : 0 ≤ a) (h1 : a < 90) {A : Option Addr} {c : Nat} {l : List UInt8} (hv : Ub w 0 (.slice A l.length c) l) :
    ∃ w', (Instr.mapUpdate 72 (.map (some b)) (.int .i64 a) (.slice A l.length c)).run Tryz.prog w = .ok () w' ∧ Wrt w' b (f.put a l) ∧ w.mapTurned w' b := by
  have hkind := h.kind
  obtain ⟨m, hm, hr⟩ := h.mp
  obtain ⟨w', h3, h4, h5⟩ := hm.put intTy wrTy (ids90 _) (in90_i h0 h1) (.slice A l.length c)
  have h6 := Secs.put hr h4 h5 hv (in90_i h0 h1) hkind
  have h90 : In90 (f.put a l) := fun y hy => by
    unfold SF.put at hy
    split at hy
    · omega
    · exact h.in90 y hy
  have h7 : f.nPut (idsOf f).length a = (idsOf (f.put a l)).length := by
    obtain ⟨m', hm', hr'⟩ := h6
    exact (hm'.ids intTy (g := f.put a l) (fun y hy => (hr' y hy).some_iff) h90).1
  rw [h7] at h6
  exact ⟨w', h3, ⟨h90, h6⟩, h5⟩
end

/-! ### THE PAGER -/
structure Pz where
  g : Nat
  gm : Nat
  bt : Nat
  bw : Nat
  bg : Nat
  h : Zn
def Pz.has (Z : Pz) (b : Nat) : Prop := b = Z.g ∨ b = Z.gm ∨ b = Z.bt ∨ b = Z.bw ∨ b = Z.bg ∨ Z.h.has b
def pgC (Z : Pz) (P : Pgr) : Array Value := #[.pointer (some ⟨Z.h.g, 0, none⟩), .pointer (some ⟨Z.gm, 0, none⟩), .int .i64 P.a, .int .i64 (P.n : Int), .int .u64 (P.tag : Int), .map (some Z.bt), .map (some Z.bw), .map (some Z.bg)]
/-- THE PAGER P LIES AT Z. -/
structure Pg (w : World) (Z : Pz) (P : Pgr) : Prop where
  dk : Dk w Z.h P.D
  mt : Mk w Z.gm Z.h P.a P.num P.last
  blk : Blk w Z.g 91 (pgC Z P)
  tb : Tbl w Z.bt P.tb
  wr : Wrt w Z.bw P.wr
  gn : Gon w Z.bg P.gn
  n1 : Z.bt ≠ Z.bw
  n2 : Z.bt ≠ Z.bg
  n3 : Z.bw ≠ Z.bg
  m1 : ¬ Z.h.has Z.bt
  m2 : ¬ Z.h.has Z.bw
  m3 : ¬ Z.h.has Z.bg
/-- A call on the pager. -/
structure Ptp (Z : Pz) (w : World) (Z' : Pz) (w' : World) : Prop where
  g : Z'.g = Z.g
  hg : Z'.h.g = Z.h.g
  turn : Turn Z.has w w'
  has : ∀ b, Z'.has b → Z.has b ∨ w.heap.size ≤ b
section
variable {w w' w1 : World} {Z Z' Z1 : Pz} {P : Pgr}
theorem Ptp.refl (Z : Pz) (w : World) : Ptp Z w Z w := ⟨rfl, rfl, Turn.refl _ _, fun _ h => .inl h⟩
theorem Ptp.below (hb : Below w.heap.size w w') : Ptp Z w Z w' := ⟨rfl, rfl, Turn.of_below hb, fun _ h => .inl h⟩
theorem Ptp.trans (a : Ptp Z w Z1 w1) (b : Ptp Z1 w1 Z' w') : Ptp Z w Z' w' :=
  ⟨b.g.trans a.g, b.hg.trans a.hg, a.turn.trans b.turn a.has, fun x hx => (b.has x hx).elim (a.has x) fun h => .inr (Nat.le_trans a.turn.size h)⟩
theorem Pg.later (p : Pg w Z P) (hb : Below w.heap.size w w') : Pg w' Z P :=
  ⟨p.dk.later hb, p.mt.later hb, p.blk.later hb, p.tb.later hb, p.wr.later hb, p.gn.later hb, p.n1, p.n2, p.n3, p.m1, p.m2, p.m3⟩
theorem Pg.lt (p : Pg w Z P) {b : Nat} (hb : Z.has b) : b < w.heap.size := by
  rcases hb with rfl | rfl | rfl | rfl | rfl | h
  · exact p.blk.lt
  · exact p.mt.blk.lt
  · exact p.tb.lt
  · exact p.wr.lt
  · exact p.gn.lt
  · exact p.dk.lt h
/-- Of what kinds a pager's blocks are. -/
theorem Pg.kinds (p : Pg w Z P) {b : Nat} (hb : Z.has b) : kindAt w b = some (some 91) ∨ kindAt w b = some (some 151) ∨ kindAt w b = some (some 76) ∨ kindAt w b = some none ∨ kindAt w b = some (some 124) := by
  rcases hb with rfl | rfl | rfl | rfl | rfl | h
  · exact .inl (kind_blk p.blk)
  · exact .inr (.inl (kind_blk p.mt.blk))
  · exact .inr (.inr (.inr (.inl p.tb.kind)))
  · exact .inr (.inr (.inr (.inl p.wr.kind)))
  · exact .inr (.inr (.inr (.inl p.gn.kind)))
  · rcases p.dk.kinds h with h | h | h
    · exact .inr (.inr (.inl h))
    · exact .inr (.inr (.inr (.inl h)))
    · exact .inr (.inr (.inr (.inr h)))
end
end Go.Proofs.YthbhkdhljlganaaGreatDoor

namespace Go.Proofs.YthbhkdhljlganaaGreatDoor
open Go Go.RowKit
set_option linter.unusedVariables false

open Go.ChangeMaps Go.MapKept in
section
variable {w w' : World} {b : Nat} {t : TF} {f : SF} {g : Int → Bool}
/-- Another map turned. -/
theorem Tbl.map (h : Tbl w b t) {z : Nat} (hz : b ≠ z) (hg : w.mapTurned w' z) : Tbl w' b t := ⟨h.in90, h.mp.other hz hg.grown⟩
theorem Gon.map (h : Gon w b g) {z : Nat} (hz : b ≠ z) (hg : w.mapTurned w' z) : Gon w' b g := ⟨h.in90, h.mp.other hz hg.grown⟩
theorem Wrt.map (h : Wrt w b f) {z : Nat} (hz : b ≠ z) (hk : kindAt w z = some none) (hg : w.mapTurned w' z) : Wrt w' b f := ⟨h.in90, h.mp.other hz (by rw [hk]; simp) hg.grown⟩
theorem Turn.of_map {F : Nat → Prop} {z : Nat} (h : w.mapTurned w' z) (hF : F z) : Turn F w w' := Turn.of_grown h.grown fun y hy => by injection hy with hy; rw [← hy]; exact hF
/-- A map that is none of the disk's turned. -/
theorem Dk.map {h : Zn} {D : Dsk} (d : Dk w h D) {z : Nat} (hz : ¬ h.has z) (hk : kindAt w z = some none) (hg : w.mapTurned w' z) : Dk w' h D := by
  have hne : ∀ b, h.has b → b ≠ z := fun b hb e => hz (by rw [← e]; exact hb)
  have hub : ∀ v l, Ub w 0 v l → Ub w' 0 v l := fun v l h => h.other (by rw [hk]; simp) hg.grown
  have hblk : ∀ {g : Nat} {t : TypeId} {cs : Array Value}, Blk w g t cs → Blk w' g t cs := fun {g t cs} hb => hb.grown hg.grown fun e => by
    injection e with e
    subst e
    have := kind_blk hb
    rw [hk] at this
    cases this
  have hsec : ∀ {b n : Nat} {f : SF}, Secs w b f n → h.has b → Secs w' b f n := fun {b n f} hs hb => by
    obtain ⟨m, hm, hr⟩ := hs
    exact ⟨m, hm.other (hne b hb) hg.grown, fun x hx => (hr x hx).keep hub⟩
  obtain ⟨vs, ho, hp⟩ := d.pend
  refine ⟨hblk d.blk, hsec d.view (.inr (.inl rfl)), hsec d.ground (.inr (.inr (.inl rfl))), d.ne, vs, ho.other (fun e => hz (.inr (.inr (.inr e)))) hg.grown, hp.keep fun v p hv => ?_⟩
  cases p with
  | wr a b =>
    obtain ⟨ga, A, c, h1, h3, h4, h5⟩ := hv
    exact ⟨ga, A, c, h1, hblk h3, hblk h4, hub _ _ h5⟩
  | fr a =>
    obtain ⟨ga, h1, h3⟩ := hv
    exact ⟨ga, h1, hblk h3⟩
theorem Blk.map {g : Nat} {t : TypeId} {cs : Array Value} (h : Blk w g t cs) {z : Nat} (hk : kindAt w z = some none) (hg : w.mapTurned w' z) : Blk w' g t cs := h.grown hg.grown fun e => by
  injection e with e
  subst e
  have := kind_blk h
  rw [hk] at this
  cases this
end
section
variable {w w' : World} {Z : Pz} {P : Pgr}
theorem Pg.putW (p : Pg w Z P) {f : SF} (h : Wrt w' Z.bw f) (hg : w.mapTurned w' Z.bw) : Pg w' Z { P with wr := f } ∧ Ptp Z w Z w' :=
  ⟨⟨p.dk.map p.m2 p.wr.kind hg, ⟨p.mt.blk.map p.wr.kind hg⟩, p.blk.map p.wr.kind hg, p.tb.map p.n1 hg, h, p.gn.map (Ne.symm p.n3) hg, p.n1, p.n2, p.n3, p.m1, p.m2, p.m3⟩, ⟨rfl, rfl, Turn.of_map hg (.inr (.inr (.inr (.inl rfl)))), fun b hb => .inl hb⟩⟩
theorem Pg.putG (p : Pg w Z P) {f : Int → Bool} (h : Gon w' Z.bg f) (hg : w.mapTurned w' Z.bg) : Pg w' Z { P with gn := f } ∧ Ptp Z w Z w' :=
  ⟨⟨p.dk.map p.m3 p.gn.kind hg, ⟨p.mt.blk.map p.gn.kind hg⟩, p.blk.map p.gn.kind hg, p.tb.map p.n2 hg, p.wr.map p.n3 p.gn.kind hg, h, p.n1, p.n2, p.n3, p.m1, p.m2, p.m3⟩, ⟨rfl, rfl, Turn.of_map hg (.inr (.inr (.inr (.inr (.inl rfl))))), fun b hb => .inl hb⟩⟩
end

set_option maxHeartbeats 4000000 in
/-- Whether a page is there. -/
theorem phas_any (Z : Pz) (P : Pgr) (x : Int) (w : World) (hp : Pg w Z P) (hx : InI x) :
    Calls Tryz.prog 45 #[.pointer (some ⟨Z.g, 0, none⟩), .int .i64 x] w fun e w' => e = .returned (.bool (P.has x)) ∧ Below w.heap.size w w' := by
  obtain ⟨m, hm, hr⟩ := hp.wr.mp
  have l1 := hm.look intTy wrTy (nilBytes w) hx
  rw [(hr x hx).some_iff] at l1
  have l2 := hp.gn.mp.look intTy gnTy (zeroIn w) hx
  rw [gnV_some] at l2
  have l3 := hp.tb.mp.look intTy tbTy (zeroPl w) hx
  rw [tbV_get, tbV_some] at l3
  unfold plV at l3
  have d5 : w.cell? ⟨Z.g, 5, none⟩ = some (.map (some Z.bt)) := hp.blk.cell 5
  have d6 : w.cell? ⟨Z.g, 6, none⟩ = some (.map (some Z.bw)) := hp.blk.cell 6
  have d7 : w.cell? ⟨Z.g, 7, none⟩ = some (.map (some Z.bg)) := hp.blk.cell 7
  unfold Pgr.has
  generalize (m x).getD (.slice none 0 0) = v1 at *
  generalize (gnV P.gn x).getD (.int .i64 0) = v2 at *
  generalize (P.tb x).getD (0, 0) = pl at *
  generalize (P.wr x).isSome = bw at *
  generalize (P.tb x).isSome = bt at *
  generalize P.gn x = bg at *
  clear hm hr hp hx
  have q := (Below.refl w.heap.size w).alloc (Nat.le_refl _) (.cells #[.int .i64 (pl.1 : Int), .int .i64 (pl.2 : Int)] 161)
  cases bw <;> cases bt <;> cases bg
  all_goals
    go_enter Tryz.func45, Tryz.ntmps45
    go_wp2_with fail
    go_ret
    exact ⟨rfl, q⟩
set_option maxHeartbeats 1000000 in
theorem psector_any (Z : Pz) (P : Pgr) (p : Nat) (w : World) (hp : Pg w Z P) (h0 : 0 ≤ P.a) (h1 : P.a ≤ 65536) (h2 : p ≤ 65536) :
    Calls Tryz.prog 89 #[.pointer (some ⟨Z.g, 0, none⟩), .int .i64 (p : Int)] w fun e w' => e = .returned (.int .i64 (secAt P.a p)) ∧ w = w' := by
  have d2 : w.cell? ⟨Z.g, 2, none⟩ = some (.int .i64 P.a) := hp.blk.cell 2
  clear hp
  unfold secAt
  go_enter Tryz.func89, Tryz.ntmps89
  go_wp2_with fail
  go_ret
  exact ⟨by go_num, rfl⟩

def PgDone (Z : Pz) (P' : Pgr) (w w' : World) : Prop := Pg w' Z P' ∧ Ptp Z w Z w'
end Go.Proofs.YthbhkdhljlganaaGreatDoor
