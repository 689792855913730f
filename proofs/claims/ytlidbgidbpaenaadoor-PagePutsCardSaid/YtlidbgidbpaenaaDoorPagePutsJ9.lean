/- What the proof of PagePuts needs, part 9. -/
import Derived.Test.YtlidbgidbpaenaaDoorPagePutsJ8
import Derived.Deep.RegionHeld3

namespace Go.Proofs.YtlidbgidbpaenaaDoor
open Go Go.RowKit
set_option linter.unusedVariables false

theorem Co.nil (w : World) (B : Nat) : Co w B (.slice none 0 0) [] := World.ownsRow_nil w B _ 2
theorem Co.later {w w' : World} {B : Nat} {v : Value} {cs : List Cel} (h : Co w B v cs) (hb : Below w.heap.size w w') : Co w' B v cs := by
  obtain ⟨h1, h2⟩ := h
  refine ⟨h1, ?_⟩
  rcases h2 with h2 | ⟨g, cap, cur, hv, hg, hh, r⟩
  · exact .inl h2
  · exact .inr ⟨g, cap, cur, hv, hg, (hb.block g (lt_of_block hh)).trans hh, r⟩

set_option maxHeartbeats 1000000 in
set_option maxRecDepth 100000 in
theorem pclone_any (S : Nat → Prop) (v0 : Value) (cs : List Cel) (w : World) (hl : cs.length ≤ 1000000) (hr : Cs S w v0 cs) :
    Calls Tryd.prog 55 #[v0] w fun e w' => ∃ A c, e = .returned (.slice A cs.length c) ∧ Co w' w.heap.size (.slice A cs.length c) cs ∧ Below w.heap.size w w' := by
  have HR := Lib.hid hr.lt
  obtain ⟨A, c, rfl, hlc, hcm, hA0, _⟩ := hr.at
  clear hr
  rcases A with _ | ad
  · obtain rfl : c = 0 := hA0 rfl
    have hl0 : cs.length = 0 := by omega
    obtain rfl : cs = [] := List.eq_nil_of_length_eq_zero hl0
    have hnil := Lib.run_eql_slice_nil (P := Tryd.prog)
    go_enter Tryd.func55, Tryd.ntmps55
    go_wp2_with fail
    go_ret
    exact ⟨none, 0, rfl, Co.nil _ _, Below.refl _ _⟩
  · have hma : (w.alloc (.cells #[] 47)).ownsRow w.heap.size 47 2 (.slice (some ⟨w.heap.size, 0, none⟩) 0 0) 0 [] := World.ownsRow_made w #[] 0 (Nat.le_refl _) (by simp [maxLen]) (by simp)
    have HA := Lib.hid (HR.out.up ((Below.refl _ _).alloc (Nat.le_refl _) (.cells #[] 47)))
    have hnil := Lib.run_eql_slice_nil (P := Tryd.prog)
    go_enter Tryd.func55, Tryd.ntmps55
    go_wp2_with (at_builtin; refine wpList_append_sl _ rfl (.tmp 5) (.tmp 6) elemCel rfl hma HA.out rfl rfl (ccs_one _) (by simp only [maxLen]; omega) (by omega) (by simp) ?_; intro A1 k1 c1 w1 hown1 hg1 hat1)
    go_ret
    rw [Nat.zero_add, List.nil_append] at hown1
    obtain rfl := own_len hown1
    exact ⟨A1, c1, rfl, hown1, below_grown_own ((Below.refl _ _).alloc (Nat.le_refl _) _) hma hg1 (by simp)⟩

theorem Blk.new1 (w : World) (o : Obj) (t : TypeId) (cs : Array Value) : Blk ((w.alloc o).alloc (.cells cs t)) (w.heap.size + 1) t cs := by
  have := Blk.new (w.alloc o) t cs
  simpa using this
theorem Blk.put3 {w : World} {g : Nat} {t : TypeId} {a b c : Value} (h : Blk w g t #[a, b, c]) (x y z : Value) :
    Blk (((w.setCell ⟨g, 0, none⟩ x).setCell ⟨g, 1, none⟩ y).setCell ⟨g, 2, none⟩ z) g t #[x, y, z] := ((h.put 0 x).put 1 y).put 2 z
theorem below_put3 {B : Nat} {w0 w : World} {g : Nat} (h : Below B w0 w) (hg : B ≤ g) (x y z : Value) : Below B w0 (((w.setCell ⟨g, 0, none⟩ x).setCell ⟨g, 1, none⟩ y).setCell ⟨g, 2, none⟩ z) :=
  ((h.setCell hg _).setCell hg _).setCell hg _
/-- A slice whose capacity is cut to its length. -/
theorem Cs.tight {S : Nat → Prop} {w : World} {cs : List Cel} {A : Option Addr} {c : Nat} (h : Cs S w (.slice A cs.length c) cs) (hA : A = none → cs.length = 0) : Cs S w (.slice A cs.length cs.length) cs := by
  obtain ⟨h1, A', c', hv, h3, h4, h5, h6⟩ := h
  injection hv with hA' _ hc
  subst hA' hc
  exact ⟨h1, _, cs.length, rfl, Nat.le_refl _, Nat.le_trans h3 h4, hA, h6⟩

set_option maxHeartbeats 1000000 in
set_option maxRecDepth 100000 in
theorem with_any (S : Nat → Prop) (leaf : Bool) (next : Int) (vo v0 : Value) (cs : List Cel) (w : World) (hr : Cs S w v0 cs) :
    Calls Tryd.prog 54 #[.agg #[.bool leaf, .int .i64 next, vo], v0] w fun e w' => ∃ A c, e = .returned (.agg #[.bool leaf, .int .i64 next, .slice A cs.length c]) ∧ Cs (fun b => S b ∧ b < w.heap.size) w' (.slice A cs.length c) cs ∧ Below w.heap.size w w' := by
  have HR := Lib.hid (Sl.lt hr (by omega))
  obtain ⟨A, c, rfl, hlc, hcm, hA0, _⟩ := hr.at
  have hA1 : A = none → cs.length = 0 := fun h => by have := hA0 h; omega
  have HT := Lib.hid (Cs.tight HR.out hA1)
  clear hr
  rcases A with _ | ad
  · obtain rfl : cs = [] := List.eq_nil_of_length_eq_zero (hA1 rfl)
    go_enter Tryd.func54, Tryd.ntmps54
    go_wp2_with fail
    exact bodyPost_ret (results_cell1 rfl _ _ (w.heap.size + 1) rfl (Blk.new1 _ _ _ _) pageTy) rfl ⟨none, 0, rfl, Sl.nil, ((Below.refl _ _).alloc (Nat.le_refl _) _).alloc (by simp) _⟩
  · go_enter Tryd.func54, Tryd.ntmps54
    go_wp2_with fail
    have q2 : Below w.heap.size w ((w.alloc (.cells #[.bool leaf, .int .i64 next, .slice (some ad) cs.length cs.length] 24)).alloc (.cells #[.bool leaf, .int .i64 next, .slice (some ad) cs.length cs.length] 24)) := ((Below.refl _ _).alloc (Nat.le_refl _) _).alloc (by simp) _
    exact bodyPost_ret (results_cell1 rfl _ _ (w.heap.size + 1) rfl (Blk.new1 _ _ _ _) pageTy) rfl ⟨some ad, cs.length, rfl, Sl.below HT.out q2 (fun _ h => h.2), q2⟩
end Go.Proofs.YtlidbgidbpaenaaDoor
