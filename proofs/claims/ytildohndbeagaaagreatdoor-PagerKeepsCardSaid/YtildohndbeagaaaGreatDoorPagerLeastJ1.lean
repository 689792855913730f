/- What the proof of PagerLeast needs, part 1. -/
import Derived.WalkKit
import Derived.WalkSpells
import Derived.WalkLawsBesides
import Derived.Maps.AppendAt
import Derived.Deep.AppendLies
import Derived.Deep.Draws
import Derived.Lib.Hide
import Derived.Laws.IdiomStrings
import Derived.Maps.OwnSet
import Derived.Maps.RangeWalk
import Derived.Lib.SlBytesConst
import Derived.Test.YtildohndbeagaaaGreatDoorProg
import Derived.Deep.QuietTactic
import Derived.BigQuiet

namespace Go.Proofs.YtildohndbeagaaaGreatDoor
open Go Go.RowKit
set_option linter.unusedVariables false

/-! ### Slices that read as lists of cells -/

/-- The slice value v has n elements (of 'size' cells each), whose cells are xs; its block is one of S. -/
def Sl (S : Nat → Prop) (w : World) (size : Nat) (v : Value) (n : Nat) (xs : List Value) : Prop :=
  xs.length = n * size ∧ ∃ A c, v = .slice A n c ∧ n ≤ c ∧ c ≤ maxLen ∧ (A = none → c = 0) ∧
    (0 < n → ∃ b o, A = some ⟨b, o, none⟩ ∧ S b ∧ ∀ j u, xs[j]? = some u → w.cell? ⟨b, o + j, none⟩ = some u)

theorem addr_add_none (b o j : Nat) : (⟨b, o, none⟩ : Addr).add j = ⟨b, o + j, none⟩ := by
  unfold Addr.add
  split <;> simp_all

section
variable {S S' : Nat → Prop} {w w' : World} {size n : Nat} {v : Value} {xs : List Value}

theorem Sl.nil : Sl S w size (.slice none 0 0) 0 [] := ⟨by simp, none, 0, rfl, by omega, by simp [maxLen], fun _ => rfl, fun h => by omega⟩

theorem Sl.keep (h : Sl S w size v n xs) (hk : ∀ b o, S b → w'.cell? ⟨b, o, none⟩ = w.cell? ⟨b, o, none⟩) : Sl S w' size v n xs := by
  obtain ⟨h1, A, c, h2, h3, h4, h5, h6⟩ := h
  refine ⟨h1, A, c, h2, h3, h4, h5, fun hn => ?_⟩
  obtain ⟨b, o, ha, hs, hc⟩ := h6 hn
  exact ⟨b, o, ha, hs, fun j u hu => (hk _ _ hs).trans (hc j u hu)⟩

theorem Sl.more (h : Sl S w size v n xs) (hS : ∀ b, S b → S' b) : Sl S' w size v n xs := by
  obtain ⟨h1, A, c, h2, h3, h4, h5, h6⟩ := h
  refine ⟨h1, A, c, h2, h3, h4, h5, fun hn => ?_⟩
  obtain ⟨b, o, ha, hs, hc⟩ := h6 hn
  exact ⟨b, o, ha, hS _ hs, hc⟩

theorem Sl.lt (h : Sl S w size v n xs) (hp : 0 < size) : Sl (fun b => S b ∧ b < w.heap.size) w size v n xs := by
  obtain ⟨h1, A, c, h2, h3, h4, h5, h6⟩ := h
  refine ⟨h1, A, c, h2, h3, h4, h5, fun hn => ?_⟩
  obtain ⟨b, o, ha, hs, hc⟩ := h6 hn
  refine ⟨b, o, ha, ⟨hs, ?_⟩, hc⟩
  have hl : 0 < xs.length := by rw [h1]; exact Nat.mul_pos hn hp
  exact World.block_lt_of_cell? w _ (hc 0 _ (List.getElem?_eq_getElem hl))

theorem Sl.below {B : Nat} (h : Sl S w size v n xs) (hb : Below B w w') (hS : ∀ b, S b → b < B) : Sl S w' size v n xs :=
  h.keep fun b o hs => hb.cell (p := ⟨b, o, none⟩) (hS b hs)

theorem Sl.drew (h : Sl S w size v n xs) : Sl S w.drew size v n xs := h
theorem Sl.drewN (h : Sl S w size v n xs) (k : Nat) : Sl S (w.drewN k) size v n xs := h

theorem Sl.alloc (h : Sl S w size v n xs) (hS : ∀ b, S b → b < w.heap.size) (o : Obj) : Sl S (w.alloc o) size v n xs :=
  h.keep fun b o' hs => World.cell?_alloc_lt w o ⟨b, o', none⟩ (hS b hs)

theorem Sl.alloc1 (h : Sl S w 1 v n xs) (o : Obj) : Sl S (w.alloc o) 1 v n xs :=
  ((h.lt (by omega)).alloc (fun _ hb => hb.2) o).more fun _ hb => hb.1

theorem Sl.setCell (h : Sl S w size v n xs) {p : Addr} (hp : ¬ S p.block) (u : Value) : Sl S (w.setCell p u) size v n xs :=
  h.keep fun b o hs => World.cell?_setCell_other w p ⟨b, o, none⟩ u (fun e => hp (by subst e; exact hs))

theorem Sl.grown {row : Option Nat} (h : Sl S w size v n xs) (hg : w.grownBy w' row) (hlt : ∀ b, S b → b < w.heap.size) (hr : ∀ b, S b → some b ≠ row) : Sl S w' size v n xs :=
  h.keep fun b o hs => World.cell?_of_block (hg.block b (hlt b hs) (hr b hs))

theorem Sl.of_own {base : Nat} {e : TypeId} (hsz : 0 < size) (h : w.ownsRow base e size v n xs) : Sl (fun b => base ≤ b ∧ b < w.heap.size) w size v n xs := by
  have hlt := h.lt
  have hcells : ∀ {g : Nat}, v.ownBlock = some g → _ := fun {g} hg => h.cells (g := g) hg
  refine ⟨h.1, ?_⟩
  rcases h.2 with ⟨rfl, rfl⟩ | ⟨g, cap, cur, rfl, hb, hg, hnc, hcm, _⟩
  · exact ⟨none, 0, rfl, by omega, by simp [maxLen], fun _ => rfl, fun hn => by omega⟩
  · refine ⟨_, cap, rfl, hnc, hcm, fun hh => (by cases hh), fun _ => ⟨g, 0, rfl, hlt g rfl, fun j u hu => ?_⟩⟩
    have := hcells (g := g) rfl j u hu
    rwa [addr_add_none] at this
end

/-! ### What the element type's row of the table says -/

/-- t is the type of slices of e, whose zero value is z, of 'size' cells and 'bytes' bytes. -/
structure Elem (P : Program) (t e : TypeId) (z : Value) (size bytes : Nat) : Prop where
  under : P.underlying t = some (.slice e)
  info : ∃ i, P.info? e = some i ∧ i.zero = some z ∧ i.size = size ∧ i.bytes = bytes
  cells : z.cells.size = size
  pos : 0 < size

theorem Elem.mk' {P : Program} {t e : TypeId} {z : Value} {size bytes : Nat} (hu : P.underlying t = some (.slice e))
    (hi : (P.info? e).map (fun i => (i.zero, i.size, i.bytes)) = some (some z, size, bytes)) (hc : z.cells.size = size) (hp : 0 < size) : Elem P t e z size bytes :=
  ⟨hu, info_parts hi, hc, hp⟩

/-! ### append of a slice that reads as a list -/
theorem own_slice {w : World} {base : Nat} {e : TypeId} {size n : Nat} {v : Value} {xs : List Value} (h : w.ownsRow base e size v n xs) : ∃ A k c, v = .slice A k c := by
  rcases h.2 with ⟨rfl, _⟩ | ⟨g, cap, _, rfl, _⟩
  · exact ⟨_, _, _, rfl⟩
  · exact ⟨_, _, _, rfl⟩
theorem own_len {w : World} {base : Nat} {e : TypeId} {size n : Nat} {A : Option Addr} {k c : Nat} {xs : List Value} (h : w.ownsRow base e size (.slice A k c) n xs) : k = n := by
  rcases h.2 with ⟨hv, hn⟩ | ⟨g, cap, _, hv, _⟩
  · injection hv with _ h2 _; omega
  · injection hv
section
variable {P : Program} (w : World)

theorem run_append_nilsrc {base : Nat} {t e : TypeId} {z : Value} {size bytes : Nat} (E : Elem P t e z size bytes) (ty : TypeId)
    {v : Value} {n : Nat} {xs : List Value} (hown : w.ownsRow base e size v n xs) (c : Nat) : (Builtin.append_ #[t, t] ty #[v, .slice none 0 c]).run P w = .ok v w := by
  obtain ⟨i, hi, _⟩ := E.info
  rcases hown.2 with ⟨rfl, rfl⟩ | ⟨g, cap, cur, rfl, _, _, hnc, _⟩
  · simp [Builtin.append_, run_underlying E.under, sizeOf, typeInfo, hi, Builtin.lenOf, Builtin.firstCells]
  · simp [Builtin.append_, run_underlying E.under, sizeOf, typeInfo, hi, Builtin.lenOf, Builtin.firstCells, hnc, storeCells]

theorem run_append_sl {base : Nat} {t e : TypeId} {z : Value} {size bytes : Nat} (E : Elem P t e z size bytes) (ty : TypeId)
    {v : Value} {n : Nat} {xs : List Value} (hown : w.ownsRow base e size v n xs)
    {S : Nat → Prop} {u : Value} {m : Nat} {news : List Value} (hr : Sl S w size u m news) (h1 : ∀ x ∈ news, x.oneCell' = true)
    (hlen : n + m ≤ maxLen) (hbytes : (n + m) * bytes ≤ 140737488355328) (hbase : base ≤ w.heap.size) :
    ∃ v' w', (Builtin.append_ #[t, t] ty #[v, u]).run P w = .ok v' w' ∧ w'.ownsRow base e size v' (n + m) (xs ++ news) ∧ w.grownBy w' v.ownBlock ∧
      (v'.ownBlock = v.ownBlock ∨ v'.ownBlock = some w.heap.size) := by
  obtain ⟨hl, A, c, rfl, hmc, hcm, hA0, hA⟩ := hr
  have hE := E
  obtain ⟨i, hi, hz, hsz, hby⟩ := E.info
  rcases Nat.eq_zero_or_pos m with hm | hm
  · subst hm
    obtain rfl : news = [] := List.eq_nil_of_length_eq_zero (by simpa using hl)
    rcases A with _ | ad
    · exact ⟨v, w, run_append_nilsrc w hE ty hown c, by simpa using hown, World.grownBy.refl w _, .inl rfl⟩
    · obtain ⟨v', w', hrun, h2, h3, _, h5⟩ := run_append_own_at (P := P) w base t ty e i z size bytes E.under hi hz hsz hby E.cells E.pos v n xs hown ad 0 c [] (by simp) (fun j u hu => by simp at hu) (fun u hu => by simp at hu) hlen hbytes hbase
      exact ⟨v', w', hrun, h2, h3, h5⟩
  · obtain ⟨b, o, rfl, _, hc⟩ := hA hm
    obtain ⟨v', w', hrun, h2, h3, _, h5⟩ := run_append_own_at (P := P) w base t ty e i z size bytes E.under hi hz hsz hby E.cells E.pos v n xs hown ⟨b, o, none⟩ m c news hl (fun j u hu => by rw [addr_add_none]; exact hc j u hu) h1 hlen hbytes hbase
    exact ⟨v', w', hrun, h2, h3, h5⟩

theorem wpList_append_sl {ops : Array Oper} {rest : List Oper} {o : Oper} {a : Act} {Q : Exit → Act → World → Prop} (hgd : o.guard = none) (s x : Operand) {t e : TypeId} {z : Value} {size bytes : Nat}
    (E : Elem P t e z size bytes) (ho : o.op = .call { callee := .builtin .append, args := #[s, x], argTypes := #[t, t] })
    {base : Nat} {v : Value} {n : Nat} {xs : List Value} (hown : w.ownsRow base e size v n xs)
    {S : Nat → Prop} {u : Value} {m : Nat} {news : List Value} (hr : Sl S w size u m news) (hs : a.eval s = v) (hx : a.eval x = u) (h1 : ∀ y ∈ news, y.oneCell' = true)
    (hlen : n + m ≤ maxLen) (hbytes : (n + m) * bytes ≤ 140737488355328) (hbase : base ≤ w.heap.size)
    (h : ∀ A k c w', w'.ownsRow base e size (.slice A k c) (n + m) (xs ++ news) → w.grownBy w' v.ownBlock → ((Value.slice A k c).ownBlock = v.ownBlock ∨ (Value.slice A k c).ownBlock = some w.heap.size) → wpList P ops Q rest (a.put o.dst (.slice A k c)) w') :
    wpList P ops Q (o :: rest) a w := by
  refine wpList_plain hgd fun K hK => ?_
  obtain ⟨v', w', hrun, h2, h3, h4⟩ := run_append_sl (P := P) w E o.type hown hr h1 hlen hbytes hbase
  obtain ⟨A, k, c, rfl⟩ := own_slice h2
  unfold Oper.wp execOp
  simp only [ho, resolve, invoke, builtin, Sem.run_bind, Sem.run_pure, Result.andThen_ok, List.map_toArray, List.map_cons, List.map_nil, hs, hx, hrun]
  exact hK _ _ (h A k c w' h2 h3 h4)
end

/-! ### Bytes -/

/-- The cells of bytes. -/
def bv (l : List UInt8) : List Value := l.map fun b => .int .u8 (b.toNat : Int)
theorem bv_length (l : List UInt8) : (bv l).length = l.length := by simp [bv]
theorem bv_append (l m : List UInt8) : bv (l ++ m) = bv l ++ bv m := by simp [bv]
theorem bv_one (l : List UInt8) : ∀ u ∈ bv l, u.oneCell' = true := by
  intro u hu
  obtain ⟨_, _, rfl⟩ := List.mem_map.1 hu
  rfl
theorem bv_at {l : List UInt8} {j : Nat} (h : j < l.length) : (bv l)[j]? = some (.int .u8 (l[j].toNat : Int)) := by simp [bv, List.getElem?_eq_getElem h]

/-- The slice value v reads as the bytes l; its block is one of S. -/
def Bs (S : Nat → Prop) (w : World) (v : Value) (l : List UInt8) : Prop := Sl S w 1 v l.length (bv l)
/-- The slice value v owns the bytes l, in a block from B on. -/
def Ob (e : TypeId) (w : World) (B : Nat) (v : Value) (l : List UInt8) : Prop := w.ownsRow B e 1 v l.length (bv l)

theorem Ob.nil (e : TypeId) (w : World) (B : Nat) : Ob e w B (.slice none 0 0) [] := World.ownsRow_nil w B e 1
theorem Ob.made (e : TypeId) (w : World) (B : Nat) (hB : B ≤ w.heap.size) {g : Nat} (hg : g = w.heap.size) : Ob e (w.alloc (.cells #[] e)) B (.slice (some ⟨g, 0, none⟩) 0 0) [] := by
  subst hg
  exact World.ownsRow_made w #[] 0 hB (by simp [maxLen]) (by simp)
theorem Ob.len {e : TypeId} {w : World} {B : Nat} {A : Option Addr} {k c : Nat} {l : List UInt8} (h : Ob e w B (.slice A k c) l) : k = l.length := own_len h
theorem Ob.bs {e : TypeId} {w : World} {B : Nat} {v : Value} {l : List UInt8} (h : Ob e w B v l) : Bs (fun b => B ≤ b ∧ b < w.heap.size) w v l := Sl.of_own (by omega) h

theorem Ob.alloc {e : TypeId} {w : World} {B : Nat} {v : Value} {l : List UInt8} (h : Ob e w B v l) (o : Obj) : Ob e (w.alloc o) B v l := World.ownsRow.alloc h o
theorem Ob.lower {e : TypeId} {w : World} {B B' : Nat} {v : Value} {l : List UInt8} (h : Ob e w B v l) (hB : B' ≤ B) : Ob e w B' v l := by
  obtain ⟨h1, h2⟩ := h
  refine ⟨h1, ?_⟩
  rcases h2 with h2 | ⟨g, cap, cur, hv, hg, r⟩
  · exact .inl h2
  · exact .inr ⟨g, cap, cur, hv, Nat.le_trans hB hg, r⟩
theorem Ob.drewN {e : TypeId} {w : World} {B : Nat} {v : Value} {l : List UInt8} (h : Ob e w B v l) (n : Nat) : Ob e (w.drewN n) B v l := h
/-- What the call owns is below the next call's first block: it stays. -/
theorem Ob.later {e : TypeId} {w w' : World} {B : Nat} {v : Value} {l : List UInt8} (h : Ob e w B v l) (hb : Below w.heap.size w w') : Ob e w' B v l := by
  obtain ⟨h1, h2⟩ := h
  refine ⟨h1, ?_⟩
  rcases h2 with h2 | ⟨g, cap, cur, hv, hg, hh, r⟩
  · exact .inl h2
  · exact .inr ⟨g, cap, cur, hv, hg, (hb.block g (lt_of_block hh)).trans hh, r⟩

/-- A new block of one byte reads as that byte. -/
theorem Bs.one (w : World) (e : TypeId) (x : Int) (h0 : 0 ≤ x) (h1 : x ≤ 255) {g : Nat} (hg : g = w.heap.size) : Bs (fun b => b = w.heap.size) (w.alloc (.cells #[.int .u8 x] e)) (.slice (some ⟨g, 0, none⟩) 1 1) [UInt8.ofNat x.toNat] := by
  subst hg
  refine ⟨by simp [bv], _, 1, rfl, by simp, by simp [maxLen], (fun h => by cases h), fun _ => ⟨_, 0, rfl, rfl, fun j u hu => ?_⟩⟩
  rcases j with _ | j
  · simp [bv] at hu
    subst hu
    rw [World.cell?_alloc_new]
    simp
    omega
  · simp [bv] at hu

theorem Bs.at {S : Nat → Prop} {w : World} {v : Value} {l : List UInt8} (h : Bs S w v l) : ∃ A c, v = .slice A l.length c ∧ l.length ≤ c ∧ c ≤ maxLen ∧ (A = none → c = 0) ∧
    (0 < l.length → ∃ b o, A = some ⟨b, o, none⟩ ∧ S b ∧ ∀ j (hj : j < l.length), w.cell? ⟨b, o + j, none⟩ = some (.int .u8 (l[j].toNat : Int))) := by
  obtain ⟨_, A, c, h2, h3, h4, h5, h6⟩ := h
  refine ⟨A, c, h2, h3, h4, h5, fun hn => ?_⟩
  obtain ⟨b, o, ha, hs, hc⟩ := h6 hn
  exact ⟨b, o, ha, hs, fun j hj => hc j _ (bv_at hj)⟩

theorem Bs.mk_ {S : Nat → Prop} {w : World} {l : List UInt8} {A : Option Addr} {c : Nat} (h3 : l.length ≤ c) (h4 : c ≤ maxLen) (h5 : A = none → c = 0)
    (h6 : 0 < l.length → ∃ b o, A = some ⟨b, o, none⟩ ∧ S b ∧ ∀ j (hj : j < l.length), w.cell? ⟨b, o + j, none⟩ = some (.int .u8 (l[j].toNat : Int))) : Bs S w (.slice A l.length c) l := by
  refine ⟨by simp [bv], A, c, rfl, h3, h4, h5, fun hn => ?_⟩
  obtain ⟨b, o, ha, hs, hc⟩ := h6 hn
  refine ⟨b, o, ha, hs, fun j u hu => ?_⟩
  have hj : j < l.length := by
    have := (List.getElem?_eq_some_iff.1 hu).1
    simpa [bv] using this
  rw [bv_at hj] at hu
  rw [hc j hj]
  exact hu

/-- A cut: what stands from byte k on. -/
theorem Bs.cut {S : Nat → Prop} {w : World} {l : List UInt8} {b o c : Nat} (h : Bs S w (.slice (some ⟨b, o, none⟩) l.length c) l) {k : Nat} (hk : k ≤ l.length) :
    Bs S w (.slice (if c = k then some ⟨b, o, none⟩ else some ⟨b, o + k, none⟩) (l.length - k) (c - k)) (l.drop k) := by
  obtain ⟨A', c', hv, h3, h4, h5, h6⟩ := h.at
  injection hv with hA _ hc
  subst hA hc
  rw [← List.length_drop]
  refine Bs.mk_ (by rw [List.length_drop]; omega) (by omega) (fun hn => by split at hn <;> cases hn) fun hn => ?_
  rw [List.length_drop] at hn
  obtain ⟨b', o', hA, hS, hc⟩ := h6 (by omega)
  injection hA with hA
  injection hA with hb ho
  subst hb ho
  rw [if_neg (by omega)]
  refine ⟨b, o + k, rfl, hS, fun j hj => ?_⟩
  rw [List.length_drop] at hj
  rw [Nat.add_assoc, hc (k + j) (by omega), List.getElem_drop]

/-- append of bytes onto bytes of the call's own. -/
theorem wpList_append_bs {P : Program} (w : World) {ops : Array Oper} {rest : List Oper} {o : Oper} {a : Act} {Q : Exit → Act → World → Prop} (hgd : o.guard = none) (s x : Operand) {t e : TypeId}
    (E : Elem P t e (.int .u8 0) 1 1) (ho : o.op = .call { callee := .builtin .append, args := #[s, x], argTypes := #[t, t] })
    {base : Nat} {v : Value} {l : List UInt8} (hown : Ob e w base v l)
    {S : Nat → Prop} {u : Value} {m : List UInt8} (hr : Bs S w u m) (hs : a.eval s = v) (hx : a.eval x = u)
    (hlen : l.length + m.length ≤ 140737488355328) (hbase : base ≤ w.heap.size)
    (h : ∀ A k c w', Ob e w' base (.slice A k c) (l ++ m) → w.grownBy w' v.ownBlock → ((Value.slice A k c).ownBlock = v.ownBlock ∨ (Value.slice A k c).ownBlock = some w.heap.size) → wpList P ops Q rest (a.put o.dst (.slice A k c)) w') :
    wpList P ops Q (o :: rest) a w :=
  wpList_append_sl w hgd s x E ho hown hr hs hx (bv_one _) (by simp only [maxLen]; omega) (by omega) hbase fun A k c w' h2 h3 h4 =>
    h A k c w' (by unfold Ob; rw [bv_append, List.length_append]; exact h2) h3 h4

/-- What the call owns from B on may turn; all else is as it was. -/
theorem below_grown_own {B : Nat} {w0 w w' : World} {e : TypeId} {size n : Nat} {v : Value} {xs : List Value} (h : Below B w0 w) (hown : w.ownsRow B e size v n xs) (hg : w.grownBy w' v.ownBlock) (hB : B ≤ w.heap.size) : Below B w0 w' :=
  h.grown hg hB fun k hk => (hown.lt k hk).1

/-! ### A block that is known whole -/

/-- Block g is just the cells cs, of element type t, none of them frozen. -/
def Blk (w : World) (g : Nat) (t : TypeId) (cs : Array Value) : Prop := w.heap[g]? = some (.cells cs t (0, 0))
section
variable {w w' : World} {g : Nat} {t : TypeId} {cs : Array Value}
theorem Blk.lt (h : Blk w g t cs) : g < w.heap.size := lt_of_block h
theorem Blk.cell (h : Blk w g t cs) (i : Nat) : w.cell? ⟨g, i, none⟩ = cs[i]? := by unfold Blk at h; simp [World.cell?, h]
theorem Blk.free (h : Blk w g t cs) (i : Nat) : w.frozen? ⟨g, i, none⟩ = false := by unfold Blk at h; simp [World.frozen?, h]
theorem Blk.new (w : World) (t : TypeId) (cs : Array Value) : Blk (w.alloc (.cells cs t)) w.heap.size t cs := heap_alloc_new w _
theorem Blk.drew (h : Blk w g t cs) : Blk w.drew g t cs := h
theorem Blk.drewN (h : Blk w g t cs) (n : Nat) : Blk (w.drewN n) g t cs := h
theorem Blk.alloc (h : Blk w g t cs) (o : Obj) : Blk (w.alloc o) g t cs := (Below.heap_alloc w o g h.lt).trans h
theorem Blk.put (h : Blk w g t cs) (i : Nat) (u : Value) : Blk (w.setCell ⟨g, i, none⟩ u) g t (cs.setIfInBounds i u) := by
  unfold Blk at h ⊢
  simp [World.setCell, Array.getElem?_modify, h]
theorem Blk.put1 {v : Value} (h : Blk w g t #[v]) (u : Value) : Blk (w.setCell ⟨g, 0, none⟩ u) g t #[u] := h.put 0 u
theorem Blk.far (h : Blk w g t cs) {p : Addr} (hp : g ≠ p.block) (u : Value) : Blk (w.setCell p u) g t cs := (Below.heap_setCell w p u g hp).trans h
theorem Blk.below {B : Nat} (h : Blk w g t cs) (hb : Below B w w') (hg : g < B) : Blk w' g t cs := (hb.block g hg).trans h
theorem Blk.later (h : Blk w g t cs) (hb : Below w.heap.size w w') : Blk w' g t cs := h.below hb h.lt
theorem Blk.grown {row : Option Nat} (h : Blk w g t cs) (hb : w.grownBy w' row) (hg : row ≠ some g) : Blk w' g t cs := (hb.block g h.lt (fun e => hg e.symm)).trans h
theorem Blk.ne {g' : Nat} {t' : TypeId} {cs' : Array Value} (h : Blk w g t cs) (h' : Blk w g' t' cs') (hne : t ≠ t') : g ≠ g' := by
  rintro rfl
  unfold Blk at h h'
  rw [h] at h'
  injection h' with h'
  injection h' with _ ht
  exact hne ht
/-- Rows of another element type lie elsewhere. -/
theorem own_ne {base : Nat} {e : TypeId} {size n : Nat} {v : Value} {xs : List Value} (h : w.ownsRow base e size v n xs) (hg : Blk w g t cs) (hne : e ≠ t) : v.ownBlock ≠ some g := by
  rcases h.2 with ⟨rfl, _⟩ | ⟨g', cap, cur, rfl, _, hh, _⟩
  · simp [Value.ownBlock]
  · intro he
    have e' : g' = g := by simpa [Value.ownBlock] using he
    subst e'
    exact Blk.ne (t := e) hh hg hne rfl
theorem Blk.kept {base : Nat} {e : TypeId} {size n : Nat} {v : Value} {xs : List Value} (hg : Blk w g t cs) (h : w.ownsRow base e size v n xs) (hb : w.grownBy w' v.ownBlock) (hne : e ≠ t) : Blk w' g t cs :=
  hg.grown hb (own_ne h hg hne)
theorem own_set {base : Nat} {e : TypeId} {size n : Nat} {v : Value} {xs : List Value} (h : w.ownsRow base e size v n xs) (hg : Blk w g t cs) (hne : e ≠ t) (i : Nat) (u : Value) : (w.setCell ⟨g, i, none⟩ u).ownsRow base e size v n xs :=
  ownsRow_setCell_other h (own_ne h hg hne) u
end

/-- Only draws were made. -/
def Drawn (w w' : World) : Prop := ∃ n, w' = w.drewN n
theorem Drawn.refl (w : World) : Drawn w w := ⟨0, rfl⟩
theorem Drawn.drewN {w w1 : World} (h : Drawn w w1) (n : Nat) : Drawn w (w1.drewN n) := by
  obtain ⟨k, rfl⟩ := h
  exact ⟨k + n, by rw [World.drewN_drewN]⟩
theorem Drawn.trans {w w1 w2 : World} (h : Drawn w w1) (h2 : Drawn w1 w2) : Drawn w w2 := by
  obtain ⟨n, rfl⟩ := h2
  exact h.drewN n
theorem Drawn.below {w w' : World} (h : Drawn w w') (B : Nat) : Below B w w' := by
  obtain ⟨n, rfl⟩ := h
  exact below_drewN (Below.refl _ _) n

theorem Drawn.cell {w w' : World} (h : Drawn w w') {p : Addr} {v : Value} (hc : w.cell? p = some v) : w'.cell? p = some v := by
  obtain ⟨n, rfl⟩ := h
  exact hc

/-- The frames that closures make. -/
theorem run_makeFunc (P : Program) (fn : Fn) (first cap : Array Value) (w : World) : (Instr.makeFunc fn first cap).run P w = .ok (.func fn first cap) w := rfl

/-- 2^64, kept behind a name: the walk counts a great numeral up. -/
def U64 : Nat := 18446744073709551616
theorem U64_eq : U64 = 18446744073709551616 := rfl

end Go.Proofs.YtildohndbeagaaaGreatDoor

namespace Go.Proofs.YtildohndbeagaaaGreatDoor
open Go Go.RowKit Go.WideShapes
open Go.Maps (Keyed)
set_option linter.unusedVariables false
set_option linter.unusedSectionVars false

/-- How an element reads: as itself. -/
def heldR (v : Value) : Option (DataW Value × List MemPlace) := some (.held v, [])
/-- A number that an int may be. -/
def InI (a : Int) : Prop := -9223372036854775808 ≤ a ∧ a ≤ 9223372036854775807
theorem InI.wf {a : Int} (h : InI a) : (Lit.int .i64 a).wf = true := by
  unfold InI at h
  simp only [Lit.wf, Bool.and_eq_true, decide_eq_true_eq]
  exact h
theorem InI.of {a : Int} (h : (Lit.int .i64 a).wf = true) : InI a := by
  simp only [Lit.wf, Bool.and_eq_true, decide_eq_true_eq] at h
  exact h

/-- How many keys there are when one more is put; taken out. -/
def nPut (f : Int → Option Value) (n : Nat) (a : Int) : Nat := if (f a).isSome then n else n + 1
def nDel (f : Int → Option Value) (n : Nat) (a : Int) : Nat := if (f a).isSome then n - 1 else n

section
variable {P : Program} {k : TypeId} {w w' : World} {b n : Nat} {f : Int → Option Value}

/-- Block b is a map from ints: at key a stands f a; n keys in all. -/
def MpV (P : Program) (k : TypeId) (w : World) (b : Nat) (f : Int → Option Value) (n : Nat) : Prop :=
  ∃ D : DataW Value, w.ownsMap P k heldR b n D ∧ Maps.size D = n ∧ ∀ a, InI a → Maps.has D (.int .i64 a) = (f a).isSome ∧ ∀ v, f a = some v → ∀ z, D.atKey (.int .i64 a) z = .held v

theorem own_tight {m : Nat} {D : DataW Value} (h : w.ownsMap P k heldR b m D) : w.ownsMap P k heldR b (Maps.size D) D := by
  obtain ⟨es, clock, hb, F, hs, hD⟩ := h
  have e1 : Maps.size D = es.size := by rw [hD]; simp [Maps.size, length_sorted]
  exact ⟨es, clock, hb, F, by rw [e1]; exact Nat.le_refl _, hD⟩
theorem MpV.lt (h : MpV P k w b f n) : b < w.heap.size := by obtain ⟨D, h1, _⟩ := h; exact h1.lt
theorem MpV.isMap (h : MpV P k w b f n) : ∃ es clock, w.heap[b]? = some (.map es clock) := by
  obtain ⟨D, ⟨es, clock, hb, _⟩, _⟩ := h
  exact ⟨es, clock, hb⟩
theorem MpV.at (h : MpV P k w b f n) (hb : w'.heap[b]? = w.heap[b]?) : MpV P k w' b f n := by
  obtain ⟨D, ⟨es, clock, hb0, F, hs, hD⟩, h2, h3⟩ := h
  exact ⟨D, ⟨es, clock, hb.trans hb0, F, hs, hD⟩, h2, h3⟩
theorem MpV.later (h : MpV P k w b f n) (hb : Below w.heap.size w w') : MpV P k w' b f n := h.at (hb.block b h.lt)
theorem MpV.alloc (h : MpV P k w b f n) (o : Obj) : MpV P k (w.alloc o) b f n := h.at (Below.heap_alloc w o b h.lt)
theorem MpV.drew (h : MpV P k w b f n) : MpV P k w.drew b f n := h
theorem MpV.setCell (h : MpV P k w b f n) {p : Addr} (hp : b ≠ p.block) (u : Value) : MpV P k (w.setCell p u) b f n := h.at (Below.heap_setCell w p u b hp)
theorem MpV.same {g : Int → Option Value} (h : MpV P k w b f n) (hfg : ∀ a, InI a → f a = g a) : MpV P k w b g n := by
  obtain ⟨D, h1, h2, h3⟩ := h
  exact ⟨D, h1, h2, fun a ha => by rw [← hfg a ha]; exact h3 a ha⟩
theorem MpV.made (P : Program) (k : TypeId) (w : World) : MpV P k (w.alloc (.map #[] 0)) w.heap.size (fun _ => none) 0 :=
  ⟨.map [], World.ownsMap_made w P k heldR, rfl, fun a _ => ⟨rfl, fun v h => by cases h⟩⟩

variable (hk : P.underlying k = some (.int .i64))
include hk
theorem key_mk {a : Int} (ha : InI a) : keyOf P k (.int .i64 a) = some (.int .i64 a) := Maps.keyOf_int_mk hk ha.wf

theorem MpV.atv (h : MpV P k w b f n) {D : DataW Value} {a : Int} (ha : InI a) {v z : Value} (h3 : Maps.has D (.int .i64 a) = (f a).isSome ∧ ∀ v, f a = some v → ∀ z, D.atKey (.int .i64 a) z = .held v)
    (hv : DataW.held v = D.atKey (.int .i64 a) (.held z)) : v = (f a).getD z := by
  cases hf : f a with
  | some u =>
    rw [h3.2 u hf] at hv
    injection hv
  | none =>
    have h0 : Maps.has D (.int .i64 a) = false := by rw [h3.1, hf]; rfl
    rw [Maps.atKey_of_not_has h0] at hv
    injection hv
/-- 'v, ok := m[a]'. -/
theorem MpV.look {t e : TypeId} (h : MpV P k w b f n) (ht : P.underlying t = some (.map k e)) {z : Value} (hz : (zeroValue e).run P w = .ok z w) {a : Int} (ha : InI a) :
    (Instr.lookup t (.map (some b)) (.int .i64 a) true).run P w = .ok (.tuple #[(f a).getD z, .bool (f a).isSome]) w := by
  have h0 := h
  obtain ⟨D, h1, h2, h3⟩ := h
  obtain ⟨v, ps, hrun, hv⟩ := h1.look_ok (Maps.int_keyed hk) ht hz (zd := .held z) (zp := []) rfl (key_mk hk ha)
  simp only [heldR, Option.some.injEq, Prod.mk.injEq] at hv
  rw [hrun, h0.atv hk ha (h3 a ha) hv.1, (h3 a ha).1]
/-- 'm[a]'. -/
theorem MpV.look1 {t e : TypeId} (h : MpV P k w b f n) (ht : P.underlying t = some (.map k e)) {z : Value} (hz : (zeroValue e).run P w = .ok z w) {a : Int} (ha : InI a) :
    (Instr.lookup t (.map (some b)) (.int .i64 a) false).run P w = .ok ((f a).getD z) w := by
  have h0 := h
  obtain ⟨D, h1, h2, h3⟩ := h
  obtain ⟨v, ps, hrun, hv⟩ := h1.lookup (Maps.int_keyed hk) ht hz (zd := .held z) (zp := []) rfl (key_mk hk ha)
  simp only [heldR, Option.some.injEq, Prod.mk.injEq] at hv
  rw [hrun, h0.atv hk ha (h3 a ha) hv.1]
/-- 'len(m)'. -/
theorem MpV.len {t e : TypeId} (h : MpV P k w b f n) (ht : P.underlying t = some (.map k e)) (ty : TypeId) : (Builtin.len_ #[t] ty #[.map (some b)]).run P w = .ok (.int .i64 (n : Int)) w := by
  obtain ⟨D, h1, h2, h3⟩ := h
  rw [h1.len ht ty, h2]
/-- 'm[a] = v'. -/
theorem MpV.put {t e : TypeId} (h : MpV P k w b f n) (ht : P.underlying t = some (.map k e)) (hn : n < maxLen) {a : Int} (ha : InI a) (v : Value) :
    ∃ w', (Instr.mapUpdate t (.map (some b)) (.int .i64 a) v).run P w = .ok () w' ∧ MpV P k w' b (fun x => if x = a then some v else f x) (nPut f n a) ∧ w.mapTurned w' b := by
  obtain ⟨D, h1, h2, h3⟩ := h
  have K := Maps.int_keyed hk
  have ht' := h1.tidy K
  have hkl : WideAt.IsKeyLit (.int .i64 a) := K.key (key_mk hk ha)
  obtain ⟨w', hrun, h1', hturn⟩ := h1.store K ht hn (key_mk hk ha) (d := .held v) (ps := []) rfl
  have hsz : Maps.size (D.put (.int .i64 a) (.held v)) = nPut f n a := by
    rw [Maps.size_put ht', (h3 a ha).1, h2]
    unfold nPut
    cases f a <;> rfl
  refine ⟨w', hrun, ⟨_, by rw [← hsz]; exact own_tight h1', hsz, fun x hx => ?_⟩, hturn⟩
  by_cases hxa : x = a
  · subst hxa
    refine ⟨by rw [Maps.has_put_same ht'.isMap hkl]; simp, fun u hu z => ?_⟩
    simp only [if_true, Option.some.injEq] at hu
    subst hu
    exact Maps.atKey_put_same ht'.isMap hkl _ _
  · have hne : Lit.int .i64 x ≠ .int .i64 a := fun e => hxa (by injection e)
    refine ⟨by rw [Maps.has_put_other hne, (h3 x hx).1]; simp only [hxa, if_false], fun u hu z => ?_⟩
    simp only [hxa, if_false] at hu
    rw [Maps.atKey_put_other hne]
    exact (h3 x hx).2 u hu z
/-- 'delete(m, a)'. -/
theorem MpV.del {t e : TypeId} (h : MpV P k w b f n) (ht : P.underlying t = some (.map k e)) {a : Int} (ha : InI a) (ty : TypeId) :
    ∃ w', (Builtin.delete_ #[t, k] ty #[.map (some b), .int .i64 a]).run P w = .ok (.tuple #[]) w' ∧ MpV P k w' b (fun x => if x = a then none else f x) (nDel f n a) ∧ w.mapTurned w' b := by
  obtain ⟨D, h1, h2, h3⟩ := h
  have K := Maps.int_keyed hk
  have ht' := h1.tidy K
  obtain ⟨w', hrun, h1', hturn⟩ := h1.drop K ht (key_mk hk ha) ty
  have hsz : Maps.size (D.del (.int .i64 a)) = nDel f n a := by
    have := Maps.size_del (k := .int .i64 a) ht'
    rw [(h3 a ha).1, h2] at this
    unfold nDel
    cases hf : f a with
    | none => rw [hf] at this; simpa using this
    | some u =>
      rw [hf] at this
      simp only [Option.isSome_some, if_true] at this ⊢
      omega
  refine ⟨w', hrun, ⟨_, by rw [← hsz]; exact own_tight h1', hsz, fun x hx => ?_⟩, hturn⟩
  by_cases hxa : x = a
  · subst hxa
    exact ⟨by rw [Maps.has_del_same]; simp, fun u hu z => by simp at hu⟩
  · have hne : Lit.int .i64 x ≠ .int .i64 a := fun e => hxa (by injection e)
    refine ⟨by rw [Maps.has_del_other hne, (h3 x hx).1]; simp only [hxa, if_false], fun u hu z => ?_⟩
    simp only [hxa, if_false] at hu
    rw [Maps.atKey_del_other hne]
    exact (h3 x hx).2 u hu z

omit hk
theorem nodup_sub {α : Type} [BEq α] [LawfulBEq α] : ∀ {l l' : List α}, l.Nodup → (∀ x ∈ l, x ∈ l') → l.length ≤ l'.length
  | [], l', _, _ => Nat.zero_le _
  | x :: r, l', hn, h => by
    rw [List.nodup_cons] at hn
    have hx := h x (by simp)
    have ih := nodup_sub (l := r) (l' := l'.erase x) hn.2 fun y hy => (List.mem_erase_of_ne (by rintro rfl; exact hn.1 hy)).2 (h y (by simp [hy]))
    rw [List.length_erase_of_mem hx] at ih
    have : 0 < l'.length := List.length_pos_of_mem hx
    rw [List.length_cons]
    omega
/-- So many keys as one can name. -/
theorem MpV.ge (h : MpV P k w b f n) (hk : P.underlying k = some (.int .i64)) {l : List Int} (hn : l.Nodup) (hl : ∀ x ∈ l, InI x ∧ (f x).isSome = true) : l.length ≤ n := by
  obtain ⟨D, h1, h2, h3⟩ := h
  obtain ⟨es, rfl⟩ := (h1.tidy (Maps.int_keyed hk)).isMap
  have h4 := nodup_sub (α := Int) (l := l) (l' := es.filterMap fun p => match p.1 with | .int _ x => some x | _ => none) hn fun x hx => by
    have h5 := (h3 x (hl x hx).1).1
    rw [(hl x hx).2, Maps.has_eq, List.any_eq_true] at h5
    obtain ⟨p, hp, hs⟩ := h5
    have h6 := WideAt.sameKey_eq hs
    exact List.mem_filterMap.2 ⟨p, hp, by rw [h6]⟩
  have h5 := List.length_filterMap_le (fun p : Lit × DataW Value => match p.1 with | .int _ x => some x | _ => none) es
  rw [Maps.size_eq] at h2
  omega

/-! ### range -/
/-- 'for a, v := range m' under way: those with 'left' are to come, cnt in all. -/
def RgV (P : Program) (k : TypeId) (w : World) (b r : Nat) (f : Int → Option Value) (n : Nat) (left : Int → Bool) (cnt : Nat) : Prop :=
  ∃ (D : DataW Value) (lf : Lit → Bool), w.ranges P k heldR b r n D lf cnt ∧ Maps.size D = n ∧ (∀ a, InI a → Maps.has D (.int .i64 a) = (f a).isSome ∧ ∀ v, f a = some v → ∀ z, D.atKey (.int .i64 a) z = .held v) ∧ ∀ a, left a = true ↔ InI a ∧ lf (.int .i64 a) = true
variable {r cnt : Nat} {left : Int → Bool}
theorem RgV.map (h : RgV P k w b r f n left cnt) : MpV P k w b f n := by
  obtain ⟨D, lf, h1, h2, h3, _⟩ := h
  exact ⟨D, h1.owns, h2, h3⟩
theorem RgV.left_eq (h : RgV P k w b r f n left cnt) : w.rangeLeft b r = cnt := by
  obtain ⟨D, lf, h1, _⟩ := h
  exact h1.left_eq
theorem RgV.lt (h : RgV P k w b r f n left cnt) : r < w.heap.size := by
  obtain ⟨D, lf, h1, _⟩ := h
  exact h1.lt
theorem RgV.kept {row : Option Nat} (h : RgV P k w b r f n left cnt) (hg : w.grownBy w' row) (hb : some b ≠ row) (hr : some r ≠ row) : RgV P k w' b r f n left cnt := by
  obtain ⟨D, lf, h1, h2, h3, h4⟩ := h
  exact ⟨D, lf, h1.kept hg hb hr, h2, h3, h4⟩

variable {ops : Array Oper} {rest : List Oper} {o : Oper} {a : Act} {Q : Exit → Act → World → Prop}
theorem wpList_range_mp (w : World) (hg : o.guard = none) (m : Operand) (t : TypeId) (hop : o.op = Op.range t m) (hk : P.underlying k = some (.int .i64)) {e : TypeId} (ht : P.underlying t = some (.map k e))
    (hm : a.eval m = .map (some b)) (h : MpV P k w b f n) (left : Int → Bool) (hl : ∀ a, left a = true ↔ InI a ∧ (f a).isSome = true)
    (hK : ∀ w', RgV P k w' b w.heap.size f n left n → w.grownBy w' none → w'.heap.size = w.heap.size + 1 → wpList P ops Q rest (a.put o.dst (.pointer (some ⟨w.heap.size, 0, none⟩))) w') : wpList P ops Q (o :: rest) a w := by
  obtain ⟨D, h1, h2, h3⟩ := h
  refine wpList_range_own w hg m t hop k e (Maps.int_keyed hk) ht heldR b n D hm h1 fun w' hr hgr hsz => hK w' ⟨D, _, by rw [h2] at hr; exact hr, h2, h3, fun a => ?_⟩ hgr hsz
  rw [hl]
  exact ⟨fun ⟨ha, hf⟩ => ⟨ha, by rw [(h3 a ha).1]; exact hf⟩, fun ⟨ha, hf⟩ => ⟨ha, by rw [(h3 a ha).1] at hf; exact hf⟩⟩
theorem wpList_next_mp (w : World) (hg : o.guard = none) (it : Operand) (hop : o.op = Op.next it false) (hk : P.underlying k = some (.int .i64))
    (hit : a.eval it = .pointer (some ⟨r, 0, none⟩)) (h : RgV P k w b r f n left cnt)
    (hDone : cnt = 0 → (∀ x, left x = false) → wpList P ops Q rest (a.put o.dst (.tuple #[.bool false])) w)
    (hMore : ∀ (x : Int) (c : Value) (w' : World) (cnt' : Nat), InI x → left x = true → f x = some c → RgV P k w' b r f n (fun z => left z && !(z == x)) cnt' → cnt' < cnt →
      w.grownBy w' (some r) → w'.heap.size = w.heap.size → (Instr.entry (.pointer (some ⟨r, 0, none⟩))).run P w' = .ok (.tuple #[.int .i64 x, c]) w' → wpList P ops Q rest (a.put o.dst (.tuple #[.bool true, .int .i64 x, c])) w') : wpList P ops Q (o :: rest) a w := by
  obtain ⟨D, lf, h1, h2, h3, h4⟩ := h
  refine wpList_next_ranges w hg it hop k (Maps.int_keyed hk) heldR (Value.int .i64) id (fun key kl hkey => by obtain ⟨x, rfl, _⟩ := Maps.keyOf_int_inv hk hkey; exact ⟨x, rfl⟩) (fun v y _ => ⟨v, rfl⟩) b r n D lf cnt hit h1
    (fun h0 hl => hDone h0 fun x => ?_) (fun x c kl y w' cnt' hkey hlk hv hat hrg hlt hgr hsz hen => ?_)
  · cases hx : left x with
    | false => rfl
    | true => have := ((h4 x).1 hx).2; rw [hl] at this; cases this
  · obtain ⟨x', ex, rfl, hwx⟩ := Maps.keyOf_int_inv hk hkey
    cases ex
    have hx := InI.of hwx
    simp only [heldR, Option.some.injEq] at hv
    subst hv
    have hfx : f x = some c := by
      cases hf : f x with
      | some u =>
        have e1 := (h3 x hx).2 u hf (.held c)
        rw [hat] at e1
        simp only [id] at e1
        injection e1 with e1
        rw [e1]
      | none =>
        have h0 : Maps.has D (.int .i64 x) = false := by rw [(h3 x hx).1, hf]; rfl
        have e1 := Maps.atKey_of_not_has h0 (z := DataW.nil)
        rw [hat] at e1
        cases e1
    refine hMore x c w' cnt' hx ((h4 x).2 ⟨hx, hlk⟩) hfx ⟨D, _, hrg, h2, h3, fun z => ?_⟩ hlt hgr hsz hen
    simp only [Bool.and_eq_true, Bool.not_eq_true', h4 z]
    constructor
    · rintro ⟨⟨hz, hlf⟩, hne⟩
      exact ⟨hz, hlf, Maps.sameKey_ne (fun e => by injection e with _ e; simp [e] at hne)⟩
    · rintro ⟨hz, hlf, hne⟩
      refine ⟨⟨hz, hlf⟩, ?_⟩
      rw [beq_eq_false_iff_ne]
      rintro rfl
      simp [Lit.sameKey] at hne
end
end Go.Proofs.YtildohndbeagaaaGreatDoor

namespace Go.Proofs.YtildohndbeagaaaGreatDoor
open Go Go.RowKit
set_option linter.unusedVariables false

/-- One call behind another. -/
theorem below_chain {a b c : World} (h : Below a.heap.size a b) (k : Below b.heap.size b c) : Below a.heap.size a c := h.trans (k.mono h.size)
theorem below_drew0 (a : World) : Below a.heap.size a a.drew := ⟨rfl, rfl, rfl, Nat.le_refl _, fun _ _ => rfl⟩

/-- The string of some bytes. -/
def st (l : List UInt8) : ByteArray := ⟨l.toArray⟩
theorem st_data (l : List UInt8) : (st l).data.toList = l := rfl
theorem st_of (s : ByteArray) : st s.data.toList = s := by cases s; rfl
theorem st_inj {l m : List UInt8} (h : st l = st m) : l = m := by rw [← st_data l, h, st_data]
@[go_sem] theorem st_size (l : List UInt8) : (st l).size = l.length := by simp [st, ByteArray.size]
@[go_sem] theorem st_toList (l : List UInt8) : (st l).toList = l := ByteArray.toList_mk l
@[go_sem] theorem st_append (l m : List UInt8) : st l ++ st m = st (l ++ m) := by simp [st, ByteArray.mk_append_mk]
@[go_sem] theorem st_extract (l : List UInt8) (a b : Nat) : (st l).extract a b = st ((l.drop a).take (b - a)) := by
  apply ByteArray.ext
  rw [ByteArray.data_extract]
  simp [st]
@[go_sem] theorem st_getElem (l : List UInt8) (i : Nat) (h : i < (st l).size) : (st l)[i]'h = l[i]'(by rwa [st_size] at h) := by
  simp [st, ByteArray.getElem_eq_getElem_data]

theorem wrap_u64 {n : Int} (h0 : 0 ≤ n) (h : n < (U64 : Int)) : IntKind.u64.wrap n = n := by
  unfold U64 at h
  simp only [IntKind.wrap, IntKind.bits, IntKind.signed]
  simp
  omega

theorem Bs.nilv (S : Nat → Prop) (w : World) : Bs S w (.slice none 0 0) [] := Sl.nil
/-- A block of some bytes that the text itself names, marked or not. -/
theorem Bs.lit (w : World) (e : TypeId) (l : List UInt8) (hl : l.length ≤ maxLen) (k : Nat × Nat) {g : Nat} (hg : g = w.heap.size) : Bs (fun b => b = w.heap.size) (w.alloc (.cells (bv l).toArray e k)) (.slice (some ⟨g, 0, none⟩) l.length l.length) l := by
  subst hg
  refine Bs.mk_ (Nat.le_refl _) hl (fun h => by cases h) fun _ => ⟨_, 0, rfl, rfl, fun j hj => ?_⟩
  obtain ⟨lo, hi⟩ := k
  rw [Nat.zero_add, World.cell?_alloc_mark, List.getElem?_toArray]
  exact bv_at hj

section
variable {P : Program} {ops : Array Oper} {Q : Exit → Act → World → Prop} {a : Act} {rest : List Oper} {o : Oper}

/-- An operation that is run: unguarded, or its guard says yes. -/
theorem wpList_wanted {w : World} (hw : Region.wanted o (yielded ops a.tmps) = true)
    (h : ∀ K : Act → World → Prop, (∀ a w, wpList P ops Q rest a w → K a w) → o.wp P a w K Q) : wpList P ops Q (o :: rest) a w :=
  wpList_step fun K hK => by rw [if_pos hw]; exact h K hK

theorem run_string_of_bs {S : Nat → Prop} {w : World} {v : Value} {l : List UInt8} (hb : Bs S w v l) {src dst e : TypeId} (hs : P.underlying src = some (.slice e)) (he : P.underlying e = some (.int .u8)) (hd : P.underlying dst = some .string) :
    (convert src dst v).run P w = .ok (.string (st l)) w := by
  obtain ⟨A, c, rfl, h3, h4, h5, h6⟩ := hb.at
  rcases Nat.eq_zero_or_pos l.length with h0 | h0
  · obtain rfl : l = [] := List.eq_nil_of_length_eq_zero h0
    rcases A with _ | ad
    · exact run_convert_bytes_nil w src e hs he _ _ dst hd
    · exact run_convert_bytes_back w src dst e ad c [] hs he hd (fun j hj => by simp at hj)
  · obtain ⟨b, o', rfl, _, hc⟩ := h6 h0
    exact run_convert_bytes_back w src dst e ⟨b, o', none⟩ c l hs he hd (fun j hj => by rw [addr_add_none]; exact hc j hj)

/-- 'string([]byte{x})'. -/
theorem conv1 {src dst e : TypeId} (hs : P.underlying src = some (.slice e)) (he : P.underlying e = some (.int .u8)) (hd : P.underlying dst = some .string) (w : World) (n : Int) (b : UInt8) (h0 : 0 ≤ n) (h1 : n ≤ 255) (hb : b.toNat = n.toNat) :
    (convert src dst (.slice (some ⟨w.heap.size, 0, none⟩) 1 1)).run P (w.alloc (.cells #[.int .u8 n] e)) = .ok (.string (st [b])) (w.alloc (.cells #[.int .u8 n] e)) := by
  have h := run_string_of_bs (P := P) (Bs.one w e n h0 h1 rfl) hs he hd
  have hb' : b = UInt8.ofNat n.toNat := by
    apply UInt8.toNat_inj.1
    simp
    omega
  rw [hb']
  exact h

/-- '[]byte("ab")': the literal's row is marked. -/
theorem run_bytes_const {t e : TypeId} (ht : P.underlying t = some (.slice e)) (he : P.underlying e = some (.int .u8)) (w : World) (g : Nat) (C : Array Value) (n c : Nat) (hg : g = w.heap.size) :
    (convert t t (.slice (some ⟨g, 0, none⟩) n c)).run P (w.alloc (.cells C e)) = .ok (.slice (some ⟨g, 0, none⟩) n c) (w.alloc (.cells C e (C.size, C.size + 1))) := by
  subst hg
  exact Lib.run_convert_bytes_const w t e C n c ht he

/-- 'string(b)'. -/
theorem wpList_string_of_bs (w : World) (hw : Region.wanted o (yielded ops a.tmps) = true) (x : Operand) {src dst e : TypeId} (ho : o.op = .convert src dst x)
    (hs : P.underlying src = some (.slice e)) (he : P.underlying e = some (.int .u8)) (hd : P.underlying dst = some .string)
    {S : Nat → Prop} {v : Value} {l : List UInt8} (hb : Bs S w v l) (hx : a.eval x = v) (h : wpList P ops Q rest (a.put o.dst (.string (st l))) w) : wpList P ops Q (o :: rest) a w := by
  refine wpList_wanted hw fun K hK => ?_
  have hrun := run_string_of_bs (P := P) hb hs he hd
  unfold Oper.wp execOp
  simp [ho, hx, hrun, Result.andThen]
  exact hK _ _ h

theorem Bs.of_string (w : World) (s : List UInt8) (e : TypeId) (cap : Nat) (hc : s.length ≤ cap) (hm : cap ≤ maxLen) (k : Nat × Nat) :
    Bs (fun b => b = w.heap.size) (w.alloc (.cells (bytesRow (st s) cap) e k)) (.slice (some ⟨w.heap.size, 0, none⟩) s.length cap) s := by
  refine Bs.mk_ hc hm (fun h => by cases h) fun _ => ⟨_, 0, rfl, rfl, fun j hj => ?_⟩
  rw [Nat.zero_add]
  obtain ⟨lo, hi⟩ := k
  rw [World.cell?_alloc_mark, bytesRow_at (st s) cap j (by simpa [st] using hj)]
  simp [st]

/-- '[]byte(s)': a block of the call's own. -/
theorem wpList_bytes_of_st (w : World) (hw : Region.wanted o (yielded ops a.tmps) = true) (x : Operand) {src dst e : TypeId} (ho : o.op = .convert src dst x)
    (hs : P.underlying src = some .string) (hd : P.underlying dst = some (.slice e)) (he : P.underlying e = some (.int .u8))
    {l : List UInt8} (hl : l.length ≤ maxLen) (hx : a.eval x = .string (st l))
    (h : ∀ A c w', Bs (fun b => b = w.heap.size) w' (.slice A l.length c) l → Below w.heap.size w w' → w'.heap.size = w.heap.size + 1 → wpList P ops Q rest (a.put o.dst (.slice A l.length c)) w') : wpList P ops Q (o :: rest) a w := by
  refine wpList_wanted hw fun K hK => ?_
  have hrun := run_bytes_of_string (P := P) w src dst e (st l) hs hd he
  unfold Oper.wp execOp
  rw [st_size] at hrun
  simp [ho, hx, hrun, Result.andThen]
  refine hK _ _ (h _ _ _ (Bs.of_string w.drew l e _ (grownCap_ge w _ 0 e) (grownCap_le_maxLen w _ 0 e hl) _) ?_ (by simp))
  exact ((Below.refl _ _).drew.alloc (Nat.le_refl _) _)
end

end Go.Proofs.YtildohndbeagaaaGreatDoor

namespace Go.Proofs.YtildohndbeagaaaGreatDoor
open Go
set_option linter.unusedVariables false

/-- Sectors: what each one holds that is in use. -/
abbrev SF := Int → Option (List UInt8)
/-- A write, or a free, that wasn't synced. -/
inductive Pnd where
  | wr (at_ : Int) (b : List UInt8)
  | fr (at_ : Int)
structure Dsk where
  size : Int
  limit : Int
  view : SF
  nv : Nat
  ground : SF
  ng : Nat
  pend : List Pnd

def SF.put (f : SF) (a : Int) (b : List UInt8) : SF := fun x => if x = a then some b else f x
def SF.del (f : SF) (a : Int) : SF := fun x => if x = a then none else f x
def SF.nPut (f : SF) (n : Nat) (a : Int) : Nat := if (f a).isSome then n else n + 1
def SF.nDel (f : SF) (n : Nat) (a : Int) : Nat := if (f a).isSome then n - 1 else n
/-- What a write of b leaves of which n bytes are done, where old stood. -/
def tornB (b old : List UInt8) (n : Int) : List UInt8 :=
  if n.toNat < b.length then b.take n.toNat ++ old.drop n.toNat else b
def doP (s : SF × Nat) (p : Pnd) (n : Int) : SF × Nat := match p with
  | .wr a b => (s.1.put a (tornB b ((s.1 a).getD []) n), s.1.nPut s.2 a)
  | .fr a => (s.1.del a, s.1.nDel s.2 a)
/-- What the k-th pending write keeps at a crash. -/
def keptN (l : List (Int × Int)) (k : Nat) : Option Int := (l.find? fun x => x.1 == (k : Int)).map (·.2)
def crashF (l : List (Int × Int)) : Nat → List Pnd → SF × Nat → SF × Nat
  | _, [], s => s
  | k, p :: ps, s => crashF l (k + 1) ps (match keptN l k with | some n => doP s p n | none => s)

def Dsk.new (n : Int) : Dsk := ⟨n, n, fun _ => none, 0, fun _ => none, 0, []⟩
def Dsk.put (D : Dsk) (p : Pnd) (n : Int) : Dsk := { D with view := (doP (D.view, D.nv) p n).1, nv := (doP (D.view, D.nv) p n).2, pend := D.pend ++ [p] }
/-- Why a write may not be. -/
def Dsk.why (D : Dsk) (a : Int) (b : List UInt8) : Nat :=
  if a < 0 ∨ D.size ≤ a then 61 else if 512 < b.length then 62 else if (D.view a).isNone ∧ D.limit ≤ (D.nv : Int) then 63 else 0
def Dsk.write (D : Dsk) (a : Int) (b : List UInt8) : Dsk := if D.why a b = 0 then D.put (.wr a b) b.length else D
def Dsk.free (D : Dsk) (a : Int) : Dsk := if (D.view a).isSome then D.put (.fr a) 0 else D
def Dsk.sync (D : Dsk) : Dsk := { D with ground := D.view, ng := D.nv, pend := [] }
def Dsk.crash (D : Dsk) (l : List (Int × Int)) : Dsk :=
  { D with ground := (crashF l 0 D.pend (D.ground, D.ng)).1, ng := (crashF l 0 D.pend (D.ground, D.ng)).2, view := (crashF l 0 D.pend (D.ground, D.ng)).1, nv := (crashF l 0 D.pend (D.ground, D.ng)).2, pend := [] }

theorem tornB_all (b old : List UInt8) : tornB b old b.length = b := by unfold tornB; rw [if_neg (by simp)]

/-- A list of sectors that holds just what f says, n of them. -/
structure FinL (f : SF) (n : Nat) (l : List (Int × List UInt8)) : Prop where
  nodup : (l.map (·.1)).Nodup
  len : l.length = n
  look : ∀ a, (l.find? fun x => x.1 == a).map (·.2) = f a
theorem FinL.nil : FinL (fun _ => none) 0 [] := ⟨by simp, rfl, fun _ => rfl⟩
theorem FinL.has {f : SF} {n : Nat} {l : List (Int × List UInt8)} (h : FinL f n l) (a : Int) : (f a).isSome = true ↔ a ∈ l.map (·.1) := by
  rw [← h.look a]
  constructor
  · intro hs
    cases hf : l.find? (fun x => x.1 == a) with
    | none => rw [hf] at hs; cases hs
    | some x =>
      have h1 := List.mem_of_find?_eq_some hf
      have h2 := List.find?_some hf
      simp only [beq_iff_eq] at h2
      exact List.mem_map.2 ⟨x, h1, h2⟩
  · intro hm
    obtain ⟨x, hx, rfl⟩ := List.mem_map.1 hm
    cases hf : l.find? (fun y => y.1 == x.1) with
    | some y => rfl
    | none => have := List.find?_eq_none.1 hf x hx; simp at this
theorem find_filter_ne {l : List (Int × List UInt8)} {a x : Int} (hne : x ≠ a) : (l.filter fun y => y.1 != a).find? (fun y => y.1 == x) = l.find? fun y => y.1 == x := by
  induction l with
  | nil => rfl
  | cons y r ih =>
    by_cases hy : y.1 = a
    · rw [List.filter_cons_of_neg (by simp [hy]), ih, List.find?_cons_of_neg (by simp [hy]; exact fun e => hne e.symm)]
    · rw [List.filter_cons_of_pos (by simpa using hy)]
      by_cases hx : y.1 = x
      · rw [List.find?_cons_of_pos (by simpa using hx), List.find?_cons_of_pos (by simpa using hx)]
      · rw [List.find?_cons_of_neg (by simpa using hx), List.find?_cons_of_neg (by simpa using hx), ih]
theorem find_filter_eq {l : List (Int × List UInt8)} {a : Int} : (l.filter fun y => y.1 != a).find? (fun y => y.1 == a) = none := by
  rw [List.find?_eq_none]
  intro y hy
  have := (List.mem_filter.1 hy).2
  simpa using this
theorem len_filter {l : List (Int × List UInt8)} {a : Int} (h : (l.map (·.1)).Nodup) : (l.filter fun y => y.1 != a).length = if a ∈ l.map (·.1) then l.length - 1 else l.length := by
  induction l with
  | nil => simp
  | cons y r ih =>
    simp only [List.map_cons, List.nodup_cons] at h
    have ih := ih h.2
    by_cases hy : y.1 = a
    · rw [List.filter_cons_of_neg (by simp [hy]), ih, if_neg (by rw [← hy]; exact h.1), if_pos (by simp [hy])]
      simp
    · rw [List.filter_cons_of_pos (by simpa using hy), List.length_cons, ih]
      have e : (a ∈ List.map (·.1) (y :: r)) ↔ a ∈ List.map (·.1) r := by
        simp only [List.map_cons, List.mem_cons]
        exact ⟨fun h => h.resolve_left (fun e => hy e.symm), .inr⟩
      by_cases hm : a ∈ List.map (·.1) r
      · rw [if_pos hm, if_pos (e.2 hm), List.length_cons]
        have : 0 < r.length := by
          cases r with
          | nil => simp at hm
          | cons _ _ => simp
        omega
      · rw [if_neg hm, if_neg (fun h => hm (e.1 h)), List.length_cons]
theorem nodup_filter {l : List (Int × List UInt8)} {a : Int} (h : (l.map (·.1)).Nodup) : ((l.filter fun y => y.1 != a).map (·.1)).Nodup := h.sublist (List.Sublist.map _ List.filter_sublist)
theorem FinL.del {f : SF} {n : Nat} {l : List (Int × List UInt8)} (h : FinL f n l) (a : Int) : FinL (f.del a) (f.nDel n a) (l.filter fun y => y.1 != a) := by
  refine ⟨nodup_filter h.nodup, ?_, fun x => ?_⟩
  · rw [len_filter h.nodup, h.len]
    unfold SF.nDel
    by_cases hm : a ∈ l.map (·.1)
    · rw [if_pos hm, if_pos ((h.has a).2 hm)]
    · rw [if_neg hm, if_neg (fun e => hm ((h.has a).1 e))]
  · unfold SF.del
    by_cases hx : x = a
    · subst hx; rw [find_filter_eq, if_pos rfl]; rfl
    · rw [find_filter_ne hx, if_neg hx, h.look]
theorem FinL.put {f : SF} {n : Nat} {l : List (Int × List UInt8)} (h : FinL f n l) (a : Int) (b : List UInt8) : FinL (f.put a b) (f.nPut n a) ((l.filter fun y => y.1 != a) ++ [(a, b)]) := by
  have hd := h.del a
  refine ⟨?_, ?_, fun x => ?_⟩
  · rw [List.map_append, List.nodup_append]
    refine ⟨hd.nodup, by simp, fun x hx y hy => ?_⟩
    simp only [List.map_cons, List.map_nil, List.mem_singleton] at hy
    subst hy
    rintro rfl
    obtain ⟨z, hz, rfl⟩ := List.mem_map.1 hx
    have := (List.mem_filter.1 hz).2
    simp at this
  · rw [List.length_append, hd.len]
    unfold SF.nDel SF.nPut
    by_cases hs : (f a).isSome = true
    · rw [if_pos hs, if_pos hs]
      have hm := (h.has a).1 hs
      have : 0 < l.length := by
        cases l with
        | nil => simp at hm
        | cons _ _ => simp
      have := h.len
      simp
      omega
    · rw [if_neg hs, if_neg hs]; simp
  · rw [List.find?_append]
    unfold SF.put
    by_cases hx : x = a
    · subst hx
      rw [find_filter_eq, if_pos rfl]
      simp
    · rw [find_filter_ne hx, if_neg hx, ← h.look x]
      cases l.find? (fun y => y.1 == x) with
      | some y => rfl
      | none => simp; exact fun e => hx e.symm
end Go.Proofs.YtildohndbeagaaaGreatDoor

namespace Go.Proofs.YtildohndbeagaaaGreatDoor
open Go
set_option linter.unusedVariables false

theorem nodup_le : ∀ (N : Nat) (l : List Int), l.Nodup → (∀ x ∈ l, 0 ≤ x ∧ x < (N : Int)) → l.length ≤ N
  | 0, l, _, h => by
    cases l with
    | nil => simp
    | cons x r => have := h x (by simp); omega
  | N + 1, l, hn, h => by
    have h1 : (l.filter fun x => x != (N : Int)).length ≤ N := nodup_le N _ (hn.sublist List.filter_sublist) fun x hx => by
      have h2 := List.mem_filter.1 hx
      have h3 := h x h2.1
      have h4 : x ≠ (N : Int) := by simpa using h2.2
      omega
    have h5 : ∀ (l : List Int), l.Nodup → l.length ≤ (l.filter fun x => x != (N : Int)).length + 1 := by
      intro l
      induction l with
      | nil => intro _; simp
      | cons x r ih =>
        intro hn
        rw [List.nodup_cons] at hn
        by_cases hx : x = (N : Int)
        · rw [List.filter_cons_of_neg (by simp [hx])]
          have e : (r.filter fun y => y != (N : Int)) = r := List.filter_eq_self.2 fun y hy => by
            have : y ≠ (N : Int) := fun e => hn.1 (by rw [hx, ← e]; exact hy)
            simpa using this
          rw [e]
          simp
        · rw [List.filter_cons_of_pos (by simpa using hx)]
          have := ih hn.2
          simp only [List.length_cons]
          omega
    have := h5 l hn
    omega

def SecOk (x : Int × List UInt8) : Prop := 0 ≤ x.1 ∧ x.1 < 65536 ∧ x.2.length ≤ 512
/-- Sectors that may be, n of them. -/
def FinK (f : SF) (n : Nat) : Prop := ∃ l, FinL f n l ∧ ∀ x ∈ l, SecOk x
theorem FinK.nil : FinK (fun _ => none) 0 := ⟨[], FinL.nil, by simp⟩
theorem FinK.bound {f : SF} {n : Nat} (h : FinK f n) : n ≤ 65536 := by
  obtain ⟨l, h1, h2⟩ := h
  have := nodup_le 65536 (l.map (·.1)) h1.nodup fun x hx => by
    obtain ⟨y, hy, rfl⟩ := List.mem_map.1 hx
    have := h2 y hy
    exact ⟨this.1, this.2.1⟩
  rw [List.length_map, h1.len] at this
  exact this
theorem FinK.at {f : SF} {n : Nat} (h : FinK f n) {a : Int} {b : List UInt8} (hf : f a = some b) : 0 ≤ a ∧ a < 65536 ∧ b.length ≤ 512 := by
  obtain ⟨l, h1, h2⟩ := h
  rw [← h1.look a] at hf
  cases hfd : l.find? (fun x => x.1 == a) with
  | none => rw [hfd] at hf; cases hf
  | some x =>
    rw [hfd] at hf
    simp only [Option.map_some, Option.some.injEq] at hf
    have h3 := h2 x (List.mem_of_find?_eq_some hfd)
    have h4 := List.find?_some hfd
    simp only [beq_iff_eq] at h4
    subst h4 hf
    exact h3
theorem FinK.put {f : SF} {n : Nat} (h : FinK f n) {a : Int} {b : List UInt8} (h0 : 0 ≤ a) (h1 : a < 65536) (hb : b.length ≤ 512) : FinK (f.put a b) (f.nPut n a) := by
  obtain ⟨l, h2, h3⟩ := h
  refine ⟨_, h2.put a b, fun x hx => ?_⟩
  rcases List.mem_append.1 hx with h4 | h4
  · exact h3 x (List.mem_filter.1 h4).1
  · simp only [List.mem_singleton] at h4
    subst h4
    exact ⟨h0, h1, hb⟩
theorem FinK.del {f : SF} {n : Nat} (h : FinK f n) (a : Int) : FinK (f.del a) (f.nDel n a) := by
  obtain ⟨l, h2, h3⟩ := h
  exact ⟨_, h2.del a, fun x hx => h3 x (List.mem_filter.1 hx).1⟩
theorem tornB_len {b old : List UInt8} {n : Int} (hb : b.length ≤ 512) (ho : old.length ≤ 512) : (tornB b old n).length ≤ 512 := by
  unfold tornB
  split
  · rw [List.length_append, List.length_take, List.length_drop]; omega
  · exact hb
def PnOk : Pnd → Prop
  | .wr a b => 0 ≤ a ∧ a < 65536 ∧ b.length ≤ 512
  | .fr a => 0 ≤ a ∧ a < 65536
theorem doP_ok {s : SF × Nat} {p : Pnd} (h : FinK s.1 s.2) (hp : PnOk p) (n : Int) : FinK (doP s p n).1 (doP s p n).2 := by
  cases p with
  | wr a b =>
    refine h.put hp.1 hp.2.1 (tornB_len hp.2.2 ?_)
    cases hf : s.1 a with
    | none => simp
    | some o => exact (h.at hf).2.2
  | fr a => exact h.del a
theorem crashF_ok (l : List (Int × Int)) : ∀ (ps : List Pnd) (k : Nat) (s : SF × Nat), FinK s.1 s.2 → (∀ p ∈ ps, PnOk p) → FinK (crashF l k ps s).1 (crashF l k ps s).2
  | [], k, s, h, _ => h
  | p :: ps, k, s, h, hp => by
    rw [crashF]
    refine crashF_ok l ps (k + 1) _ ?_ fun q hq => hp q (by simp [hq])
    cases keptN l k with
    | none => exact h
    | some n => exact doP_ok h (hp p (by simp)) n

structure Dsk.Ok (D : Dsk) : Prop where
  view : FinK D.view D.nv
  ground : FinK D.ground D.ng
  pend : ∀ p ∈ D.pend, PnOk p
  size : 1 ≤ D.size ∧ D.size ≤ 65536
theorem Dsk.Ok.new {n : Int} (h : 1 ≤ n) (h2 : n ≤ 65536) : (Dsk.new n).Ok := ⟨FinK.nil, FinK.nil, by simp [Dsk.new], ⟨h, h2⟩⟩
theorem Dsk.Ok.put {D : Dsk} (h : D.Ok) {p : Pnd} (hp : PnOk p) (n : Int) : (D.put p n).Ok := by
  refine ⟨doP_ok (s := (D.view, D.nv)) h.view hp n, h.ground, fun q hq => ?_, h.size⟩
  rcases List.mem_append.1 hq with h1 | h1
  · exact h.pend q h1
  · simp only [List.mem_singleton] at h1
    subst h1
    exact hp
theorem why_zero {D : Dsk} {a : Int} {b : List UInt8} (h : D.why a b = 0) : 0 ≤ a ∧ a < D.size ∧ b.length ≤ 512 := by
  unfold Dsk.why at h
  split at h
  · cases h
  · split at h
    · cases h
    · omega
theorem Dsk.Ok.write {D : Dsk} (h : D.Ok) (a : Int) (b : List UInt8) : (D.write a b).Ok := by
  unfold Dsk.write
  split
  · rename_i hw
    have h1 := why_zero hw
    have h2 := h.size
    exact h.put (p := .wr a b) ⟨h1.1, by omega, h1.2.2⟩ _
  · exact h
theorem Dsk.Ok.free {D : Dsk} (h : D.Ok) (a : Int) : (D.free a).Ok := by
  unfold Dsk.free
  split
  · rename_i hs
    obtain ⟨b, hb⟩ := Option.isSome_iff_exists.1 hs
    have := h.view.at hb
    exact h.put (p := .fr a) ⟨this.1, this.2.1⟩ _
  · exact h
theorem Dsk.Ok.sync {D : Dsk} (h : D.Ok) : D.sync.Ok := ⟨h.view, h.view, by simp [Dsk.sync], h.size⟩
theorem Dsk.Ok.crash {D : Dsk} (h : D.Ok) (l : List (Int × Int)) : (D.crash l).Ok := by
  have := crashF_ok l D.pend 0 (D.ground, D.ng) h.ground h.pend
  exact ⟨this, this, by simp [Dsk.crash], h.size⟩
theorem Dsk.Ok.limited {D : Dsk} (h : D.Ok) (n : Int) : ({ D with limit := n } : Dsk).Ok := ⟨h.view, h.ground, h.pend, h.size⟩
end Go.Proofs.YtildohndbeagaaaGreatDoor

namespace Go.Proofs.YtildohndbeagaaaGreatDoor
open Go Go.RowKit
set_option linter.unusedVariables false

/-! ### As few bytes as it needs -/
/-- A number in as few bytes as it needs. -/
def varB (x : Nat) : List UInt8 := if x < 128 then [UInt8.ofNat x] else UInt8.ofNat (x % 128 + 128) :: varB (x / 128)
termination_by x
theorem varB_lo {y : Nat} (h : y < 128) : varB y = [UInt8.ofNat y] := by rw [varB, if_pos h]
theorem varB_hi {y : Nat} (h : ¬ y < 128) : varB y = UInt8.ofNat (y % 128 + 128) :: varB (y / 128) := by rw [varB, if_neg h]
theorem varB_len (x : Nat) : 1 ≤ (varB x).length := by
  unfold varB; split <;> simp
theorem varB_le : ∀ (n x : Nat), x < 128 ^ (n + 1) → (varB x).length ≤ n + 1
  | 0, x, h => by rw [varB_lo (by simpa using h)]; simp
  | n + 1, x, h => by
    by_cases hx : x < 128
    · rw [varB_lo hx]; simp
    · rw [varB_hi hx, List.length_cons]
      have := varB_le n (x / 128) (by rw [Nat.pow_succ] at h; exact Nat.div_lt_of_lt_mul (by omega))
      omega
theorem varB_le10 {x : Nat} (h : x < U64) : (varB x).length ≤ 10 := varB_le 9 x (Nat.lt_of_lt_of_le h (by unfold U64; decide))

theorem or128 : ∀ a, a < 256 → a ||| 128 = a % 128 + 128 := by decide +kernel
theorem bits_or128 (y : Nat) : bits .or .u8 ((y : Int) % 256) 128 = (y : Int) % 128 + 128 := by
  have h := u8_or_nat (y % 256) 128 (by omega) (by omega)
  rw [or128 _ (by omega)] at h
  have e : (((y % 256 : Nat)) : Int) = (y : Int) % 256 := by omega
  rw [e] at h
  exact h.trans (by omega)

/-- How many bytes are still to come behind the first one. -/
def varLeft (y : Nat) : Nat := if y = 0 then 0 else (varB y).length
theorem varLeft_step {y : Nat} (h : 0 < y) : varLeft y = varLeft (y / 128) + 1 := by
  unfold varLeft
  rw [if_neg (by omega)]
  by_cases hy : y < 128
  · rw [varB_lo hy, if_pos (by omega)]; rfl
  · rw [varB_hi hy, if_neg (by omega)]; rfl
theorem varLeft_first (x : Nat) : 1 + varLeft (x / 128) = (varB x).length := by
  unfold varLeft
  by_cases hx : x < 128
  · rw [varB_lo hx, if_pos (by omega)]; rfl
  · rw [varB_hi hx, if_neg (by omega), List.length_cons]; omega

/-! ### Reading such a number -/
/-- The number that stands first, read from byte i on, v being what the bytes ahead gave: the number and how many bytes it has, or an error's number. -/
def getV : Nat → Nat → List UInt8 → Except Nat (Nat × Nat)
  | _, _, [] => .error 10
  | i, v, b :: r =>
    if (i = 9 ∧ 1 < b.toNat) ∨ (0 < i ∧ b.toNat = 0) then .error 12
    else if b.toNat < 128 then .ok (v + b.toNat * 128 ^ i, i + 1)
    else getV (i + 1) (v + (b.toNat % 128) * 128 ^ i) r
def getVarB (l : List UInt8) : Except Nat (Nat × Nat) := getV 0 0 l

/-- What num.GetVar gives back of it. -/
def valOf : Except Nat (Nat × Nat) → Nat | .ok (v, _) => v | .error _ => 0
def lenOf : Except Nat (Nat × Nat) → Nat | .ok (_, n) => n | .error _ => 0
def errOf : Except Nat (Nat × Nat) → Nat | .ok _ => 0 | .error e => e

theorem getV_bound : ∀ (l : List UInt8) (i v : Nat), i ≤ 9 → v < 128 ^ i → ∀ x n, getV i v l = .ok (x, n) → x < U64 ∧ i < n ∧ n ≤ i + l.length
  | [], _, _, _, _, _, _, h => by simp [getV] at h
  | b :: r, i, v, hi, hv, x, n, h => by
    rw [getV] at h
    split at h
    · cases h
    · rename_i hc
      split at h
      · rename_i hb
        simp only [Except.ok.injEq, Prod.mk.injEq] at h
        obtain ⟨rfl, rfl⟩ := h
        refine ⟨?_, by omega, by simp⟩
        by_cases h9 : i = 9
        · subst h9
          have : b.toNat ≤ 1 := by omega
          have h1 : b.toNat * 128 ^ 9 ≤ 1 * 128 ^ 9 := Nat.mul_le_mul_right _ this
          unfold U64
          omega
        · have h1 : b.toNat * 128 ^ i ≤ 127 * 128 ^ i := Nat.mul_le_mul_right _ (by omega)
          have h2 : 128 ^ i ≤ 128 ^ 8 := Nat.pow_le_pow_right (by omega) (by omega)
          unfold U64
          omega
      · rename_i hb
        by_cases h9 : i = 9
        · subst h9; omega
        · have h1 : (b.toNat % 128) * 128 ^ i ≤ 127 * 128 ^ i := Nat.mul_le_mul_right _ (by omega)
          have := getV_bound r (i + 1) (v + (b.toNat % 128) * 128 ^ i) (by omega) (by rw [Nat.pow_succ]; omega) x n h
          simp
          omega
theorem getVarB_bound {l : List UInt8} {x n : Nat} (h : getVarB l = .ok (x, n)) : x < U64 ∧ 0 < n ∧ n ≤ l.length := by
  have := getV_bound l 0 0 (by omega) (by simp) x n h
  omega

/-- '|' of bits that stand apart is '+'. -/
theorem shl_or (a x i : Nat) (ha : a < 128 ^ i) (hx : x * 128 ^ i < U64) (ha' : a < U64) : bits .or .u64 (a : Int) (IntKind.u64.wrap ((x : Int) * 2 ^ (7 * i))) = ((a + x * 128 ^ i : Nat) : Int) := by
  have e : (2 : Nat) ^ (7 * i) = 128 ^ i := by rw [Nat.pow_mul]
  have e1 : ((x : Int) * 2 ^ (7 * i)) = ((x * 128 ^ i : Nat) : Int) := by
    rw [Int.natCast_mul, ← e, Int.natCast_pow]; rfl
  have e2 : IntKind.u64.wrap ((x : Int) * 2 ^ (7 * i)) = ((x * 128 ^ i : Nat) : Int) := by
    rw [e1]
    unfold U64 at hx
    simp only [IntKind.wrap, IntKind.bits, IntKind.signed]
    generalize x * 128 ^ i = q at *
    simp
    omega
  rw [e2]
  unfold U64 at hx ha'
  rw [u64_or_nat _ _ ha' hx, Nat.or_comm, nat_join (7 * i) (x * 128 ^ i) a (by rw [e]; exact Nat.mul_mod_left _ _) (by rw [e]; exact ha), Nat.add_comm]

theorem and127 (x : Nat) (hx : x < 256) : bits .and .u8 (x : Int) 127 = ((x % 128 : Nat) : Int) := by
  have h := u8_and_nat x 127 hx (by omega)
  rw [nat_mask7] at h
  exact h

/-- What was written is read again, whatever stands behind. -/
theorem getV_varB : ∀ (k x : Nat) (s : List UInt8) (i v : Nat), x < 128 ^ (k + 1) → i + k ≤ 9 → (i + k = 9 → x < 128 ^ k * 2) → (0 < i → 0 < x) →
    getV i v (varB x ++ s) = .ok (v + x * 128 ^ i, i + (varB x).length)
  | 0, x, s, i, v, hx, hi, h9, h0 => by
    have hx' : x < 128 := by simpa using hx
    rw [varB_lo hx']
    have hb : (UInt8.ofNat x).toNat = x := by simp; omega
    simp only [List.cons_append, List.nil_append, getV, hb, List.length_singleton]
    rw [if_neg (by intro hh; rcases hh with ⟨h1, h2⟩ | ⟨h1, h2⟩
                   · have := h9 (by omega); simp at this; omega
                   · have := h0 h1; omega), if_pos hx']
  | k + 1, x, s, i, v, hx, hi, h9, h0 => by
    by_cases hx' : x < 128
    · rw [varB_lo hx']
      have hb : (UInt8.ofNat x).toNat = x := by simp; omega
      simp only [List.cons_append, List.nil_append, getV, hb, List.length_singleton]
      rw [if_neg (by omega), if_pos hx']
    · rw [varB_hi hx']
      have hb : (UInt8.ofNat (x % 128 + 128)).toNat = x % 128 + 128 := by simp; omega
      simp only [List.cons_append, getV, hb, List.length_cons]
      rw [if_neg (by omega), if_neg (by omega)]
      have e : (x % 128 + 128) % 128 = x % 128 := by omega
      rw [e]
      have hd : x / 128 < 128 ^ (k + 1) := by rw [Nat.pow_succ] at hx; exact Nat.div_lt_of_lt_mul (by omega)
      rw [getV_varB k (x / 128) s (i + 1) _ hd (by omega) (fun h => by
        have := h9 (by omega)
        rw [Nat.pow_succ] at this
        exact Nat.div_lt_of_lt_mul (by omega)) (fun _ => by omega)]
      have e2 : x % 128 * 128 ^ i + x / 128 * 128 ^ (i + 1) = x * 128 ^ i := by
        rw [Nat.pow_succ, Nat.mul_comm (128 ^ i) 128, ← Nat.mul_assoc, ← Nat.add_mul]
        congr 1
        omega
      congr 2
      · omega
      · omega
theorem getVarB_varB {x : Nat} (hx : x < U64) (s : List UInt8) : getVarB (varB x ++ s) = .ok (x, (varB x).length) := by
  have h := getV_varB 9 x s 0 0 (Nat.lt_of_lt_of_le hx (by unfold U64; decide)) (by omega) (fun _ => Nat.lt_of_lt_of_le hx (by unfold U64; decide)) (fun h => by omega)
  unfold getVarB
  rw [h]; simp

/-- What is read is the one way in which the number is written. -/
theorem getV_only : ∀ (l : List UInt8) (i v x n : Nat), getV i v l = .ok (x, n) → ∃ y s, x = v + y * 128 ^ i ∧ l = varB y ++ s ∧ n = i + (varB y).length ∧ (0 < i → 0 < y)
  | [], _, _, _, _, h => by simp [getV] at h
  | b :: r, i, v, x, n, h => by
    rw [getV] at h
    split at h
    · cases h
    · rename_i hc
      split at h
      · rename_i hb
        simp only [Except.ok.injEq, Prod.mk.injEq] at h
        obtain ⟨rfl, rfl⟩ := h
        exact ⟨b.toNat, r, rfl, by rw [varB_lo hb]; simp, by rw [varB_lo hb]; simp, fun hi => by omega⟩
      · rename_i hb
        obtain ⟨y, s, hx, hl, hn, hy⟩ := getV_only r (i + 1) _ x n h
        have hy := hy (by omega)
        have hb2 : b.toNat < 256 := b.toNat_lt
        have h1 : ¬ b.toNat % 128 + 128 * y < 128 := by omega
        refine ⟨b.toNat % 128 + 128 * y, s, ?_, ?_, ?_, fun _ => by omega⟩
        · rw [hx, Nat.pow_succ, Nat.add_mul, Nat.mul_comm 128 y, Nat.mul_assoc y 128, Nat.mul_comm 128 (128 ^ i)]
          omega
        · rw [varB_hi h1, show (b.toNat % 128 + 128 * y) % 128 + 128 = b.toNat from by omega, show (b.toNat % 128 + 128 * y) / 128 = y from by omega, hl]
          simp
        · rw [varB_hi h1, show (b.toNat % 128 + 128 * y) / 128 = y from by omega, hn, List.length_cons]
          omega
theorem getVarB_only {l : List UInt8} {x n : Nat} (h : getVarB l = .ok (x, n)) : l = varB x ++ l.drop n ∧ n = (varB x).length := by
  obtain ⟨y, s, hx, hl, hn, _⟩ := getV_only l 0 0 x n h
  obtain rfl : x = y := by simpa using hx
  have hn' : n = (varB x).length := by omega
  refine ⟨?_, hn'⟩
  rw [hn']
  conv => rhs; rw [hl]
  rw [List.drop_left]
  exact hl

/-! ### A number in so many bytes, the highest one first -/
def beB (v n : Nat) : List UInt8 := (List.range n).map fun k => UInt8.ofNat (v / 256 ^ (n - 1 - k))
theorem beB_length (v n : Nat) : (beB v n).length = n := by simp [beB]
/-- As the document has it: by dividing. -/
theorem beB_succ (v n : Nat) : beB v (n + 1) = beB (v / 256) n ++ [UInt8.ofNat v] := by
  unfold beB
  rw [List.range_succ, List.map_append]
  congr 1
  · apply List.map_congr_left
    intro k hk
    have hk := List.mem_range.1 hk
    rw [show n + 1 - 1 - k = (n - 1 - k) + 1 from by omega, Nat.pow_succ, Nat.mul_comm, Nat.div_div_eq_div_mul]
  · simp
theorem beB_one (v : Nat) : beB v 1 = [UInt8.ofNat v] := by simp [beB, List.range_succ]

/-- The number of bytes. -/
def deB (l : List UInt8) : Nat := l.foldl (fun v b => v * 256 + b.toNat) 0
theorem deB_foldl (l : List UInt8) : ∀ v, l.foldl (fun v b => v * 256 + b.toNat) v = v * 256 ^ l.length + deB l := by
  unfold deB
  induction l with
  | nil => intro v; simp
  | cons b r ih =>
    intro v
    rw [List.foldl_cons, ih, List.foldl_cons, ih (0 * 256 + b.toNat), List.length_cons, Nat.pow_succ, Nat.add_mul, Nat.mul_assoc, Nat.mul_comm 256 (256 ^ r.length), Nat.zero_mul, Nat.zero_add, Nat.add_assoc]
theorem deB_snoc (l : List UInt8) (b : UInt8) : deB (l ++ [b]) = deB l * 256 + b.toNat := by simp [deB]
theorem deB_cons (l : List UInt8) (b : UInt8) : deB (b :: l) = b.toNat * 256 ^ l.length + deB l := by
  have := deB_foldl l (0 * 256 + b.toNat)
  unfold deB at *
  rw [List.foldl_cons, this]
  simp
theorem deB_lt (l : List UInt8) : deB l < 256 ^ l.length := by
  induction l with
  | nil => simp [deB]
  | cons b r ih =>
    rw [deB_cons, List.length_cons, Nat.pow_succ]
    have hb : b.toNat < 256 := b.toNat_lt
    have : b.toNat * 256 ^ r.length ≤ 255 * 256 ^ r.length := Nat.mul_le_mul_right _ (by omega)
    omega
theorem deB_beB : ∀ (n v : Nat), v < 256 ^ n → deB (beB v n) = v
  | 0, v, h => by simp [beB, deB]; simp at h; omega
  | n + 1, v, h => by
    rw [beB_succ, deB_snoc, deB_beB n (v / 256) (by rw [Nat.pow_succ] at h; exact Nat.div_lt_of_lt_mul (by omega))]
    simp
    omega
theorem beB_deB (l : List UInt8) : beB (deB l) l.length = l := by
  obtain ⟨n, hn⟩ : ∃ n, n = l.length := ⟨_, rfl⟩
  induction n generalizing l with
  | zero =>
    obtain rfl := List.eq_nil_of_length_eq_zero hn.symm
    rfl
  | succ n ih =>
    obtain ⟨r, b, rfl⟩ : ∃ r b, l = r ++ [b] := ⟨l.dropLast, l.getLast (by intro h; subst h; simp at hn), (List.dropLast_concat_getLast _).symm⟩
    have hr : n = r.length := by simpa using hn
    rw [List.length_append, List.length_singleton, beB_succ, deB_snoc]
    have hb : b.toNat < 256 := b.toNat_lt
    rw [show (deB r * 256 + b.toNat) / 256 = deB r from by omega, ih r hr]
    congr 2
    apply UInt8.toNat_inj.1
    simp

/-- One byte more behind a number. -/
theorem shl8_or (a x i : Nat) (ha : a < 256 ^ i) (hi : i < 8) (hx : x < 256) : bits .or .u64 (IntKind.u64.wrap ((a : Int) * 256)) (x : Int) = ((a * 256 + x : Nat) : Int) := by
  have h1 : a * 256 < U64 := by
    have h2 : 256 ^ i ≤ 256 ^ 7 := Nat.pow_le_pow_right (by omega) (by omega)
    unfold U64
    omega
  have e : IntKind.u64.wrap ((a : Int) * 256) = ((a * 256 : Nat) : Int) := by
    unfold U64 at h1
    simp only [IntKind.wrap, IntKind.bits, IntKind.signed]
    simp
    omega
  rw [e]
  unfold U64 at h1
  rw [u64_or_nat _ _ h1 (by omega), nat_join 8 (a * 256) x (Nat.mul_mod_left _ _) (by simpa using hx)]
theorem deB_take_succ {l : List UInt8} {i : Nat} (h : i < l.length) : deB (l.take (i + 1)) = deB (l.take i) * 256 + l[i].toNat := by
  rw [List.take_succ_eq_append_getElem h, deB_snoc]
theorem deB_take_lt (l : List UInt8) (i : Nat) : deB (l.take i) < 256 ^ i :=
  Nat.lt_of_lt_of_le (deB_lt _) (Nat.pow_le_pow_right (by omega) (by simp; omega))

/-! ### Which bytes come ahead -/
def cmpB : List UInt8 → List UInt8 → Int
  | [], [] => 0
  | [], _ :: _ => -1
  | _ :: _, [] => 1
  | a :: l, b :: m => if a.toNat < b.toNat then -1 else if b.toNat < a.toNat then 1 else cmpB l m
theorem cmpB_rng : ∀ l m, cmpB l m = -1 ∨ cmpB l m = 0 ∨ cmpB l m = 1
  | [], [] => by simp [cmpB]
  | [], _ :: _ => by simp [cmpB]
  | _ :: _, [] => by simp [cmpB]
  | a :: l, b :: m => by
    unfold cmpB
    split
    · simp
    · split
      · simp
      · exact cmpB_rng l m
theorem cmpB_self : ∀ l, cmpB l l = 0
  | [] => rfl
  | a :: l => by simp [cmpB, cmpB_self l]
theorem cmpB_anti : ∀ l m, cmpB m l = - cmpB l m
  | [], [] => by simp [cmpB]
  | [], _ :: _ => by simp [cmpB]
  | _ :: _, [] => by simp [cmpB]
  | a :: l, b :: m => by
    unfold cmpB
    by_cases h : a.toNat < b.toNat
    · simp [h, Nat.lt_asymm h]
    · by_cases h2 : b.toNat < a.toNat
      · simp [h, h2]
      · simp [h, h2, cmpB_anti l m]
theorem cmpB_eq : ∀ l m, cmpB l m = 0 → l = m
  | [], [], _ => rfl
  | [], _ :: _, h => by simp [cmpB] at h
  | _ :: _, [], h => by simp [cmpB] at h
  | a :: l, b :: m, h => by
    unfold cmpB at h
    split at h
    · simp at h
    · split at h
      · simp at h
      · rw [cmpB_eq l m h, UInt8.toNat_inj.1 (by omega : a.toNat = b.toNat)]
theorem cmpB_pre : ∀ c l m, cmpB (c ++ l) (c ++ m) = cmpB l m
  | [], _, _ => rfl
  | a :: c, l, m => by simp [cmpB, cmpB_pre c l m]
theorem cmpB_less : ∀ l m, Op.bytesLess l m = decide (cmpB l m < 0)
  | [], [] => by simp [cmpB, Op.bytesLess]
  | [], _ :: _ => by simp [cmpB, Op.bytesLess]
  | _ :: _, [] => by simp [cmpB, Op.bytesLess]
  | a :: l, b :: m => by
    unfold Op.bytesLess cmpB
    by_cases h : a.toNat < b.toNat
    · have : a < b := h
      simp [this, h]
    · have h' : ¬ a < b := h
      by_cases h2 : b.toNat < a.toNat
      · have h3 : ¬ a = b := by rintro rfl; omega
        simp [h, h', h2, h3]
      · obtain rfl : a = b := UInt8.toNat_inj.1 (by omega)
        simp [h, cmpB_less l m]
/-- Numbers in the same number of bytes are ordered as they are. -/
theorem cmpB_deB : ∀ l m : List UInt8, l.length = m.length → cmpB l m = (if deB l < deB m then -1 else if deB m < deB l then 1 else 0)
  | [], [], _ => by simp [cmpB, deB]
  | [], _ :: _, h => by simp at h
  | _ :: _, [], h => by simp at h
  | a :: l, b :: m, h => by
    have h' : l.length = m.length := by simpa using h
    have hl := deB_lt l
    have hm := deB_lt m
    rw [deB_cons, deB_cons, h']
    rw [h'] at hl
    unfold cmpB
    by_cases h1 : a.toNat < b.toNat
    · have : (a.toNat + 1) * 256 ^ m.length ≤ b.toNat * 256 ^ m.length := Nat.mul_le_mul_right _ h1
      rw [Nat.add_mul] at this
      rw [if_pos h1, if_pos (by omega)]
    · rw [if_neg h1]
      by_cases h2 : b.toNat < a.toNat
      · have : (b.toNat + 1) * 256 ^ m.length ≤ a.toNat * 256 ^ m.length := Nat.mul_le_mul_right _ h2
        rw [Nat.add_mul] at this
        rw [if_pos h2, if_neg (by omega), if_pos (by omega)]
      · rw [if_neg h2, cmpB_deB l m h', show a.toNat = b.toNat from by omega]
        by_cases h3 : deB l < deB m
        · simp [h3]
        · by_cases h4 : deB m < deB l
          · simp [h3, h4]
          · simp [h3, h4]

end Go.Proofs.YtildohndbeagaaaGreatDoor

namespace Go.Proofs.YtildohndbeagaaaGreatDoor
open Go Go.RowKit
set_option linter.unusedVariables false

theorem elemU8 : Elem Tryz.prog 68 5 (.int .u8 0) 1 1 := Elem.mk' Tryz.underlying68 (by kernel_rfl) rfl (by omega)

set_option maxHeartbeats 400000 in
set_option maxRecDepth 100000 in
theorem putVar_any (S : Nat → Prop) (v0 : Value) (l : List UInt8) (x : Nat) (w : World) (hx : x < U64) (hl : (l ++ varB x).length ≤ 1099511627776) (hb : Bs S w v0 l) :
    Calls Tryz.prog 90 #[v0, .int .u64 x] w fun e w' => ∃ A k c, e = .returned (.slice A k c) ∧ Ob 5 w' w.heap.size (.slice A k c) (l ++ varB x) ∧ Below w.heap.size w w' := by
  have HB := Lib.hid hb
  have hvl := varB_len x
  have hlx : l.length ≤ 1099511627776 := by simp at hl; omega
  obtain ⟨A, c, rfl, hlc, hcm, hA0, hA⟩ := hb.at
  clear hA hA0 hb
  go_enter Tryz.func90, Tryz.ntmps90
  go_wp2_with (at_builtin; go_loud (refine wpList_append_bs _ rfl (.tmp 6) (.tmp 7) elemU8 rfl (Ob.made _ _ _ (Nat.le_refl _) (by simp)) (Sl.alloc1 HB.out _) rfl rfl (by simp; omega) (by simp) ?_); intro A1 k1 c1 w1 hown1 hg1 hat1)
  have hbl1 : Below w.heap.size w w1 := below_grown_own ((Below.refl _ _).alloc (Nat.le_refl _) _) (Ob.made _ _ _ (Nat.le_refl _) (by simp)) hg1 (by simp)
  clear hg1 hat1 HB
  go_loopw [1, 5] (fun xv out wr => ∃ y d A k c, xv = .int .u64 ((y : Nat) : Int) ∧ out = .slice A k c ∧ y < U64 ∧ d ++ varB y = l ++ varB x ∧ Ob 5 wr w.heap.size out d ∧ Below w.heap.size w wr) (fun xv _ _ => (intOf xv).toNat)
  case atStart => exact ⟨x, l, _, _, _, rfl, rfl, hx, rfl, hown1, hbl1⟩
  case round =>
    obtain ⟨y, d, A, k, c, rfl, rfl, hy, hd, hown, hbl⟩ := hrel
    have hsz := hbl.size
    have hvy := varB_len y
    have hdl : d.length < (l ++ varB x).length := by rw [← hd]; simp; omega
    have HD := Lib.hid hd
    clear hd
    by_cases h : y < 128
    · go_wp2_with (at_builtin; go_loud (refine wpList_append_bs _ rfl (.tmp 19) (.tmp 22) elemU8 rfl (hown.alloc _) (Bs.one _ _ _ (by omega) (by omega) (by simp)) rfl rfl (by simp; omega) (by simp; omega) ?_); intro A2 k2 c2 w2 hown2 hg2 hat2)
      go_ret
      refine ⟨A2, k2, c2, rfl, ?_, below_grown_own (hbl.alloc hsz _) (hown.alloc _) hg2 (by simp; omega)⟩
      rw [← HD.out, varB_lo h]
      exact hown2
    · have hor := bits_or128 y
      go_wp2_with (at_builtin; go_loud (refine wpList_append_bs _ rfl (.tmp 13) (.tmp 17) elemU8 rfl (hown.alloc _) (Bs.one _ _ _ (by omega) (by omega) (by simp)) rfl rfl (by simp; omega) (by simp; omega) ?_); intro A2 k2 c2 w2 hown2 hg2 hat2)
      go_roundw
      case rel => exact ⟨y / 128, d ++ [UInt8.ofNat (y % 128 + 128)], _, _, _, by go_num, rfl, by omega, by rw [← HD.out, varB_hi h]; simp, by rw [show ((y : Int) % 128 + 128).toNat = y % 128 + 128 from by omega] at hown2; exact hown2, below_grown_own (hbl.alloc hsz _) (hown.alloc _) hg2 (by simp; omega)⟩
      case measure => simp [intOf]; omega

/-- The table of bits reads as it was laid. -/
def BitsOk (w : World) : Prop := ∀ i, i < 9 → w.cell? ⟨0, i, none⟩ = some (.int .u64 ((8 * i : Nat) : Int))
theorem BitsOk.pos {w : World} (h : BitsOk w) : 0 < w.heap.size := World.block_lt_of_cell? w _ (h 0 (by omega))
theorem BitsOk.below {w w' : World} {B : Nat} (h : BitsOk w) (hb : Below B w w') (hB : 0 < B) : BitsOk w' := fun i hi => (hb.cell (p := ⟨0, i, none⟩) hB).trans (h i hi)
theorem BitsOk.later {w w' : World} (h : BitsOk w) (hb : Below w.heap.size w w') : BitsOk w' := h.below hb h.pos

set_option maxHeartbeats 400000 in
theorem put_range (v0 : Value) (x : Nat) (n : Int) (w : World) (hn : n < 1 ∨ 8 < n) :
    Calls Tryz.prog 83 #[v0, .int .u64 x, .int .i64 n] w fun e w' => e = .returned (.tuple #[.slice none 0 0, .int .i64 11]) ∧ Below w.heap.size w w' := by
  rcases hn with hn | hn
  · go_enter Tryz.func83, Tryz.ntmps83
    go_wp2_with fail
    go_quiet (fail)
    go_wp2
    go_ret2
    exact ⟨rfl, below_drewN ((Below.refl _ _).alloc (Nat.le_refl _) _) _⟩
  · have h1 : decide (n < 1) = false := by simp; omega
    go_enter Tryz.func83, Tryz.ntmps83
    go_wp2_with fail
    go_quiet (fail)
    go_wp2
    go_ret2
    exact ⟨rfl, below_drewN ((Below.refl _ _).alloc (Nat.le_refl _) _) _⟩

theorem byte_of_shift (x sh : Nat) : UInt8.ofNat ((x : Int) / 2 ^ sh % 256).toNat = UInt8.ofNat (x / 2 ^ sh) := by
  have e : ((x : Int) / 2 ^ sh % 256) = ((x / 2 ^ sh % 256 : Nat) : Int) := by rw [Int.natCast_emod, Int.natCast_ediv, Int.natCast_pow]; rfl
  rw [e, Int.toNat_natCast]
  apply UInt8.toNat_inj.1
  simp

set_option maxHeartbeats 400000 in
/-- The closure in num.Put: one byte more behind what was put. -/
theorem put1_any (B bo bv x sh : Nat) (s : Int) (hs : s = (sh : Int)) (A : Option Addr) (k c : Nat) (l : List UInt8) (w : World) (ho : Blk w bo 68 #[.slice A k c]) (hv : Blk w bv 31 #[.int .u64 x]) (hown : Ob 5 w B (.slice A k c) l) (hB : B ≤ w.heap.size) (hl : l.length ≤ 2199023255552) (hx : x < U64) (hsh : sh < 64) (hBo : B ≤ bo) :
    Calls Tryz.prog 96 #[.int .u64 s, .pointer (some ⟨bo, 0, none⟩), .pointer (some ⟨bv, 0, none⟩)] w fun e w' => e = .returned (.tuple #[]) ∧ ∃ A' k' c', Blk w' bo 68 #[.slice A' k' c'] ∧ Blk w' bv 31 #[.int .u64 x] ∧ Ob 5 w' B (.slice A' k' c') (l ++ [UInt8.ofNat (x / 2 ^ sh)]) ∧ Below B w w' := by
  subst hs
  have c0 := ho.cell 0
  have c1 := hv.cell 0
  simp at c0 c1
  go_enter Tryz.func96, Tryz.ntmps96
  go_wp2_with (at_builtin; go_loud (refine wpList_append_bs _ rfl (.tmp 4) (.tmp 9) elemU8 rfl (hown.alloc _) (Bs.one _ _ _ (by omega) (by omega) (by simp)) rfl rfl (by simp; omega) (by simp; omega) ?_); intro A2 k2 c2 w2 hown2 hg2 hat2; have ho2 := (ho.alloc _).kept (hown.alloc _) hg2 (by decide); have hv2 := (hv.alloc _).kept (hown.alloc _) hg2 (by decide); have d0 := ho2.cell 0; simp at d0; have d1 := ho2.free 0)
  go_end0
  rw [byte_of_shift] at hown2
  exact ⟨rfl, A2, k2, c2, ho2.put1 _, hv2.far (p := ⟨bo, 0, none⟩) (Blk.ne hv2 ho2 (by decide)) _, own_set hown2 ho2 (by decide) 0 _, (below_grown_own ((Below.refl _ _).alloc hB _) (hown.alloc _) hg2 (by simp; omega)).setCell hBo _⟩

theorem shift_test (x sh : Nat) : (((x : Int) / 2 ^ sh) != 0) = !decide (x / 2 ^ sh = 0) := by
  have e : ((x : Int) / 2 ^ sh) = ((x / 2 ^ sh : Nat) : Int) := by rw [Int.natCast_ediv, Int.natCast_pow]; rfl
  rw [e, bne, Bool.eq_iff_iff]
  simp only [Bool.not_eq_true', beq_eq_false_iff_ne, decide_eq_false_iff_not, ne_eq]
  omega

set_option maxHeartbeats 400000 in
theorem put_over (v0 : Value) (x n : Nat) (w : World) (hn : 1 ≤ n) (hn8 : n < 8) (hx : x < U64) (hv : ¬ x / 2 ^ (8 * n) = 0) (hb : BitsOk w) :
    Calls Tryz.prog 83 #[v0, .int .u64 x, .int .i64 n] w fun e w' => e = .returned (.tuple #[.slice none 0 0, .int .i64 11]) ∧ Below w.heap.size w w' := by
  have h1 : decide ((n : Int) < 1) = false := by simp; omega
  have h2 : decide (8 < (n : Int)) = false := by simp; omega
  have h3 : decide ((n : Int) < 8) = true := by simp; omega
  have h4 : (((x : Int) / 2 ^ (8 * n)) != 0) = true := by rw [shift_test]; simp [hv]
  have hc := hb n (by omega)
  have hp := hb.pos
  clear hv hb
  simp at hc
  go_enter Tryz.func83, Tryz.ntmps83
  go_wp2_with fail
  go_quiet (fail)
  go_wp2
  go_ret2
  exact ⟨rfl, below_drewN ((Below.refl _ _).alloc (Nat.le_refl _) _) _⟩

theorem beB_take_succ (x n k : Nat) (hk : k < n) : (beB x n).take (k + 1) = (beB x n).take k ++ [UInt8.ofNat (x / 2 ^ (8 * (n - 1 - k)))] := by
  rw [List.take_succ_eq_append_getElem (by rw [beB_length]; exact hk)]
  congr 2
  simp only [beB, List.getElem_map, List.getElem_range]
  rw [show (256 : Nat) = 2 ^ 8 from rfl, ← Nat.pow_mul]

set_option maxHeartbeats 1000000 in
set_option maxRecDepth 100000 in
theorem put_ok (S : Nat → Prop) (v0 : Value) (l : List UInt8) (x n : Nat) (w : World) (hn : 1 ≤ n) (hn8 : n ≤ 8) (hx : x < U64) (hv : n < 8 → x / 2 ^ (8 * n) = 0) (hb : BitsOk w) (hl : l.length ≤ 1099511627776) (hr : Bs S w v0 l) :
    Calls Tryz.prog 83 #[v0, .int .u64 x, .int .i64 n] w fun e w' => ∃ A k c, e = .returned (.tuple #[.slice A k c, .int .i64 0]) ∧ Ob 5 w' w.heap.size (.slice A k c) (l ++ beB x n) ∧ Below w.heap.size w w' := by
  have h1 : decide ((n : Int) < 1) = false := by simp; omega
  have h2 : decide (8 < (n : Int)) = false := by simp; omega
  have hmf := run_makeFunc Tryz.prog
  have hp := hb.pos
  have hc : n < 8 → w.cell? ⟨0, n, none⟩ = some (.int .u64 (8 * (n : Int))) := fun h => (hb n (by omega)).trans (by simp)
  obtain ⟨A, c, rfl, hlc, hcm, hA0, hA⟩ := hr.at
  have HR := Lib.hid hr
  have HB := Lib.hid hb
  clear hA hA0 hr hb
  by_cases h8 : n < 8
  case' pos =>
    have h3 : decide ((n : Int) < 8) = true := by simp; omega
    have h4 : (((x : Int) / 2 ^ (8 * n)) != 0) = false := by rw [shift_test]; simp [hv h8]
    have hc := hc h8
    clear hv
    go_enter Tryz.func83, Tryz.ntmps83
    go_wp2_with fail
    go_quiet (fail)
  case' neg =>
    have h3 : decide ((n : Int) < 8) = false := by simp; omega
    clear hc hv
    go_enter Tryz.func83, Tryz.ntmps83
    go_wp2_with fail
    go_quiet (fail)
  all_goals
    go_wp2_with (at_builtin; go_loud (refine wpList_append_bs _ rfl (.tmp 29) (.tmp 30) elemU8 rfl (Ob.made _ _ w.heap.size (by simp) (by simp)) (Sl.alloc1 (Sl.drewN (Sl.alloc1 HR.out _) _) _) rfl rfl (by simp; omega) (by simp; omega) ?_); intro A1 k1 c1 w1 hown1 hg1 hat1)
    have hbl1 : Below w.heap.size w w1 := below_grown_own ((below_drewN ((Below.refl _ _).alloc (Nat.le_refl _) _) _).alloc (by simp) _) (Ob.made _ _ w.heap.size (by simp) (by simp)) hg1 (by simp; omega)
    have hs1 := hbl1.size
    have hv1 : Blk w1 w.heap.size 31 #[.int .u64 x] := (((Blk.new w _ _).drewN _).alloc _).kept (Ob.made _ _ w.heap.size (by simp) (by simp)) hg1 (by decide)
    have hw1 := hv1.lt
    have R0 : Blk (w1.alloc (.cells #[.slice A1 k1 c1] 68)) w1.heap.size 68 #[.slice A1 k1 c1] ∧ Blk (w1.alloc (.cells #[.slice A1 k1 c1] 68)) w.heap.size 31 #[.int .u64 x] ∧
        Ob 5 (w1.alloc (.cells #[.slice A1 k1 c1] 68)) w.heap.size (.slice A1 k1 c1) (l ++ (beB x n).take 0) ∧ Below w.heap.size w (w1.alloc (.cells #[.slice A1 k1 c1] 68)) :=
      ⟨Blk.new _ _ _, hv1.alloc _, by simpa using Ob.alloc hown1 _, hbl1.alloc hs1 _⟩
    clear hown1 hg1 hat1 hv1 hbl1
    go_loopw [34] (fun iv wr => ∃ (i : Nat) (A' : Option Addr) (k' c' : Nat), iv = .int .i64 (i : Int) ∧ i ≤ n ∧ Blk wr w1.heap.size 68 #[.slice A' k' c'] ∧ Blk wr w.heap.size 31 #[.int .u64 x] ∧ Ob 5 wr w.heap.size (.slice A' k' c') (l ++ (beB x n).take i) ∧ Below w.heap.size w wr) (fun iv _ => n - (intOf iv).toNat)
    case atStart => exact ⟨0, A1, k1, c1, rfl, by omega, R0⟩
    case round =>
      obtain ⟨i, A', k', c', rfl, hi, hbo, hbv, hown, hbl⟩ := hrel
      clear R0
      by_cases hin : i < n
      · have hcr : wr.cell? ⟨0, n - 1 - i, none⟩ = some (.int .u64 (((8 * (n - 1 - i) : Nat)) : Int)) := (HB.out.below hbl hp) _ (by omega)
        have hsz := hbl.size
        have HK := Lib.hid (beB_take_succ x n i hin)
        go_wp2_with fail
        refine (put1_any w.heap.size w1.heap.size w.heap.size x (8 * (n - 1 - i)) _ (by simp) A' k' c' _ wr hbo hbv hown hsz (by simp [beB_length]; omega) hx (by omega) hs1).mono ?_
        rintro e w3 ⟨rfl, A3, k3, c3, hbo3, hbv3, hown3, hbl3⟩
        go_wp2
        go_roundw
        case rel => exact ⟨i + 1, A3, k3, c3, by go_num, by omega, hbo3, hbv3, by rw [HK.out, ← List.append_assoc]; exact hown3, hbl.trans hbl3⟩
        case measure => simp [intOf]; omega
      · have c0 := hbo.cell 0
        simp at c0
        go_wp2
        go_ret2
        obtain rfl : i = n := by omega
        rw [List.take_of_length_le (by rw [beB_length]; omega)] at hown
        exact ⟨A', k', c', rfl, hown, hbl⟩

end Go.Proofs.YtildohndbeagaaaGreatDoor
