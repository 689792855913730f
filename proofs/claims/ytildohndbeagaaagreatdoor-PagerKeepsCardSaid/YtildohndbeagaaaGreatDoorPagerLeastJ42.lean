/- What the proof of PagerLeast needs, part 42. -/
import Derived.Test.YtildohndbeagaaaGreatDoorPagerLeastJ4
import Derived.Test.YtildohndbeagaaaGreatDoorPagerLeastJ28

namespace Go.Proofs.YtildohndbeagaaaGreatDoor
open Go Go.RowKit
set_option linter.unusedVariables false

theorem Sv.one {S : Nat → Prop} (w : World) (x y : Int) {g : Nat} (hg : g = w.heap.size) (hS : S g) : Sv S (w.alloc (.cells #[.int .i64 x, .int .i64 y] 111)) (.slice (some ⟨g, 0, none⟩) 1 1) [(x, y)] := by
  subst hg
  refine ⟨rfl, _, _, rfl, Nat.le_refl _, by simp [maxLen], fun h => (by cases h), fun _ => ⟨_, 0, rfl, hS, fun j u hj => ?_⟩⟩
  have hb := Blk.new w 111 #[.int .i64 x, .int .i64 y]
  match j, hj with
  | 0, hj => rw [← Option.some.inj hj]; exact hb.cell 0
  | 1, hj => rw [← Option.some.inj hj]; exact hb.cell 1
  | j + 2, hj => simp [pcs] at hj

theorem rec_one {q : Nat} (hq : q < U64) {c : UInt8} : (recB q [c]).length ≤ (500 : Int).toNat := by
  have h1 := varB_le10 hq
  have h2 := varB_le 1 [c].length (by simp)
  rw [recB_len]
  unfold recF
  rw [List.length_append, List.length_append]
  simp only [List.length_cons, List.length_nil] at h2 ⊢
  omega
theorem dAt3 {D : Dsk} {a : Int} {num : Nat} {last : Int} {body t : List UInt8} (m : Mr D a num last body) (hn : num + 1 < U64) (ht : t.length ≤ 480) :
    (dAt D (a + (1 - last)) (recB (num + 1) t) 3).view = (D.view.del (a + (1 - last))).put (a + (1 - last)) (recB (num + 1) t) ∧ (dAt D (a + (1 - last)) (recB (num + 1) t) 3).ground = D.view.del (a + (1 - last)) := by
  have hw := m.two.why (recB_short hn ht)
  rw [show dAt D (a + (1 - last)) (recB (num + 1) t) 3 = (D.free (a + (1 - last))).sync.write (a + (1 - last)) (recB (num + 1) t) from rfl, write_view hw]
  refine ⟨?_, ?_⟩
  · rw [put_view]
    show (D.free (a + (1 - last))).view.put _ _ = _
    rw [free_view]
  · show (D.free (a + (1 - last))).view = _
    rw [free_view]
theorem awake12_ne {D : Dsk} {a : Int} {num : Nat} {last : Int} {body t : List UInt8} (m : Mr D a num last body) (hn : num + 1 < U64) (ht : t.length ≤ 480) :
    ∃ x, InI x ∧ ((dAt D (a + (1 - last)) (recB (num + 1) t) 3).view x).isSome ≠ ((dAt D (a + (1 - last)) (recB (num + 1) t) 3).ground x).isSome := by
  obtain ⟨h1, h2⟩ := dAt3 m hn ht
  have := m.at
  have := m.a0
  have := m.mi.l01
  refine ⟨a + (1 - last), by unfold InI; omega, ?_⟩
  rw [h1, h2]
  unfold SF.put SF.del
  simp
theorem awake12_pend {D : Dsk} {x : Int} {b : List UInt8} {a : Int} {num : Nat} {last : Int} {body : List UInt8} (m : Mr D a num last body) : (dAt D x b 3).pend.length ≤ 1000000 := by
  have := dAt_pend D x b 3
  have h := m.pend
  rw [h] at this
  simp at this
  omega
theorem Dp.apart {w W W' : World} {h h' h2 : Zn} {D D2 : Dsk} (d2 : Dp w W h2 D2) (d : Dp w W h D) (s : Stp h W h' W') (hne : ∀ b, h.has b → ¬ h2.has b) : Dp w W' h2 D2 :=
  ⟨d2.dk.apart d.dk s hne, d2.new, Turn.below d.below s.turn d.below.size d.new⟩

end Go.Proofs.YtildohndbeagaaaGreatDoor

namespace Go.Proofs.YtildohndbeagaaaGreatDoor
open Go Go.RowKit
set_option linter.unusedVariables false

/-- An act: v is the slice value of what is left. -/
structure MAct where
  kind : Int
  steps : Int
  body : List UInt8
  left : List (Int × Int)
  v : Value
def MAct.Ok (w : World) (x : MAct) : Prop := InI x.kind ∧ InI x.steps ∧ (∀ y ∈ x.left, InI y.1 ∧ InI y.2) ∧ Sv (fun b => b < w.heap.size) w x.v x.left
/-- The slice value v reads as the acts xs. -/
def Acts (w : World) (v : Value) (xs : List MAct) : Prop := ∃ A c, v = .slice A xs.length c ∧ xs.length ≤ 9223372036854775807 ∧ (∀ x ∈ xs, x.Ok w) ∧
  (0 < xs.length → ∃ b o, A = some ⟨b, o, none⟩ ∧ b < w.heap.size ∧ ∀ j (hj : j < xs.length), w.cell? ⟨b, o + j * 4, none⟩ = some (.int .i64 xs[j].kind) ∧ w.cell? ⟨b, o + j * 4 + 1, none⟩ = some (.int .i64 xs[j].steps) ∧
    w.cell? ⟨b, o + j * 4 + 2, none⟩ = some (.string (st xs[j].body)) ∧ w.cell? ⟨b, o + j * 4 + 3, none⟩ = some xs[j].v)
theorem Sv.pre {S : Nat → Prop} {w : World} {n c : Nat} {A : Option Addr} {l : List (Int × Int)} (h : Sv S w (.slice A n c) l) {k : Nat} (hk : k ≤ l.length) : Sv S w (.slice A k c) (l.take k) := by
  obtain ⟨h1, A', c', hv, h3, h4, h5, h6⟩ := h
  cases hv
  have hpt : ∀ (l : List (Int × Int)) (k : Nat), (pcs l).take (k * 2) = pcs (l.take k) := by
    intro l
    induction l with
    | nil => intro k; simp [pcs]
    | cons r rs ih =>
      intro k
      rcases k with _ | k
      · simp [pcs]
      · have := ih k
        rw [show (k + 1) * 2 = k * 2 + 1 + 1 by omega]
        simp only [pcs, List.flatMap_cons, List.take_succ_cons] at this ⊢
        simp only [List.cons_append, List.nil_append, List.take_succ_cons]
        rw [this]
  have e : (l.take k).length = k := by rw [List.length_take]; omega
  refine ⟨by rw [pcs_len], A, c, by rw [e], by omega, h4, h5, fun hn => ?_⟩
  obtain ⟨b, o, ha, hs, hc⟩ := h6 (by omega)
  refine ⟨b, o, ha, hs, fun j u hu => ?_⟩
  rw [← hpt] at hu
  have hj := (List.getElem?_eq_some_iff.1 hu).1
  rw [List.length_take] at hj
  rw [List.getElem?_take_of_lt (by omega)] at hu
  exact hc j u hu
theorem Sv.later {w w' : World} {v : Value} {l : List (Int × Int)} {B : Nat} (h : Sv (fun b => b < B) w v l) (hb : Below B w w') : Sv (fun b => b < B) w' v l :=
  Sl.keep h fun b o hs => World.cell?_of_block (hb.block b hs)
def FwPost (B : Nat) (x : MAct) (w : World) (e : Ending) (w' : World) : Prop :=
  ∃ v', e = .returned (.agg #[.int .i64 x.kind, .int .i64 x.steps, .string (st (x.body.take 600)), v']) ∧ Sv (fun b => b < B) w' v' (x.left.take 20) ∧ Below w.heap.size w w'

end Go.Proofs.YtildohndbeagaaaGreatDoor
