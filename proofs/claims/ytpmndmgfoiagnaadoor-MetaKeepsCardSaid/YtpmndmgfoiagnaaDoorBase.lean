/- Words on memory that this seat's proofs share: a slice that reads as a list of cells, append of such a slice onto a row of the call's own, bytes as cells. No program is named here. -/
import Derived.WalkKit
import Derived.WalkSpells
import Derived.WalkLawsBesides
import Derived.Maps.AppendAt
import Derived.Deep.AppendLies
import Derived.Deep.Draws
import Derived.Lib.Hide
import Derived.Laws.IdiomStrings
namespace Go.Proofs.YtpmndmgfoiagnaaDoor
open Go Go.RowKit
set_option linter.unusedVariables false

/-! ### Slices that read as lists of cells -/

/-- The slice value v has n elements (of 'size' cells each), whose cells are xs; its block is one of S. -/
def Sl (S : Nat → Prop) (w : World) (size : Nat) (v : Value) (n : Nat) (xs : List Value) : Prop :=
  xs.length = n * size ∧ ∃ A c, v = .slice A n c ∧ n ≤ c ∧ c ≤ maxLen ∧ (A = none → c = 0) ∧
    (0 < n → ∃ b o, A = some ⟨b, o, none⟩ ∧ S b ∧ ∀ j u, xs[j]? = some u → w.cell? ⟨b, o + j, none⟩ = some u)

theorem addr_add_none (b o j : Nat) : (⟨b, o, none⟩ : Addr).add j = ⟨b, o + j, none⟩ := by
  unfold Addr.add
  split <;> simp_all

section
variable {S S' : Nat → Prop} {w w' : World} {size n : Nat} {v : Value} {xs : List Value}

theorem Sl.nil : Sl S w size (.slice none 0 0) 0 [] := ⟨by simp, none, 0, rfl, by omega, by simp [maxLen], fun _ => rfl, fun h => by omega⟩

theorem Sl.keep (h : Sl S w size v n xs) (hk : ∀ b o, S b → w'.cell? ⟨b, o, none⟩ = w.cell? ⟨b, o, none⟩) : Sl S w' size v n xs := by
  obtain ⟨h1, A, c, h2, h3, h4, h5, h6⟩ := h
  refine ⟨h1, A, c, h2, h3, h4, h5, fun hn => ?_⟩
  obtain ⟨b, o, ha, hs, hc⟩ := h6 hn
  exact ⟨b, o, ha, hs, fun j u hu => (hk _ _ hs).trans (hc j u hu)⟩

theorem Sl.more (h : Sl S w size v n xs) (hS : ∀ b, S b → S' b) : Sl S' w size v n xs := by
  obtain ⟨h1, A, c, h2, h3, h4, h5, h6⟩ := h
  refine ⟨h1, A, c, h2, h3, h4, h5, fun hn => ?_⟩
  obtain ⟨b, o, ha, hs, hc⟩ := h6 hn
  exact ⟨b, o, ha, hS _ hs, hc⟩

theorem Sl.lt (h : Sl S w size v n xs) (hp : 0 < size) : Sl (fun b => S b ∧ b < w.heap.size) w size v n xs := by
  obtain ⟨h1, A, c, h2, h3, h4, h5, h6⟩ := h
  refine ⟨h1, A, c, h2, h3, h4, h5, fun hn => ?_⟩
  obtain ⟨b, o, ha, hs, hc⟩ := h6 hn
  refine ⟨b, o, ha, ⟨hs, ?_⟩, hc⟩
  have hl : 0 < xs.length := by rw [h1]; exact Nat.mul_pos hn hp
  exact World.block_lt_of_cell? w _ (hc 0 _ (List.getElem?_eq_getElem hl))

theorem Sl.below {B : Nat} (h : Sl S w size v n xs) (hb : Below B w w') (hS : ∀ b, S b → b < B) : Sl S w' size v n xs :=
  h.keep fun b o hs => hb.cell (p := ⟨b, o, none⟩) (hS b hs)

theorem Sl.drew (h : Sl S w size v n xs) : Sl S w.drew size v n xs := h
theorem Sl.drewN (h : Sl S w size v n xs) (k : Nat) : Sl S (w.drewN k) size v n xs := h

theorem Sl.alloc (h : Sl S w size v n xs) (hS : ∀ b, S b → b < w.heap.size) (o : Obj) : Sl S (w.alloc o) size v n xs :=
  h.keep fun b o' hs => World.cell?_alloc_lt w o ⟨b, o', none⟩ (hS b hs)

theorem Sl.alloc1 (h : Sl S w 1 v n xs) (o : Obj) : Sl S (w.alloc o) 1 v n xs :=
  ((h.lt (by omega)).alloc (fun _ hb => hb.2) o).more fun _ hb => hb.1

theorem Sl.setCell (h : Sl S w size v n xs) {p : Addr} (hp : ¬ S p.block) (u : Value) : Sl S (w.setCell p u) size v n xs :=
  h.keep fun b o hs => World.cell?_setCell_other w p ⟨b, o, none⟩ u (fun e => hp (by subst e; exact hs))

theorem Sl.grown {row : Option Nat} (h : Sl S w size v n xs) (hg : w.grownBy w' row) (hlt : ∀ b, S b → b < w.heap.size) (hr : ∀ b, S b → some b ≠ row) : Sl S w' size v n xs :=
  h.keep fun b o hs => World.cell?_of_block (hg.block b (hlt b hs) (hr b hs))

theorem Sl.of_own {base : Nat} {e : TypeId} (hsz : 0 < size) (h : w.ownsRow base e size v n xs) : Sl (fun b => base ≤ b ∧ b < w.heap.size) w size v n xs := by
  have hlt := h.lt
  have hcells : ∀ {g : Nat}, v.ownBlock = some g → _ := fun {g} hg => h.cells (g := g) hg
  refine ⟨h.1, ?_⟩
  rcases h.2 with ⟨rfl, rfl⟩ | ⟨g, cap, cur, rfl, hb, hg, hnc, hcm, _⟩
  · exact ⟨none, 0, rfl, by omega, by simp [maxLen], fun _ => rfl, fun hn => by omega⟩
  · refine ⟨_, cap, rfl, hnc, hcm, fun hh => (by cases hh), fun _ => ⟨g, 0, rfl, hlt g rfl, fun j u hu => ?_⟩⟩
    have := hcells (g := g) rfl j u hu
    rwa [addr_add_none] at this
end

/-! ### What the element type's row of the table says -/

/-- t is the type of slices of e, whose zero value is z, of 'size' cells and 'bytes' bytes. -/
structure Elem (P : Program) (t e : TypeId) (z : Value) (size bytes : Nat) : Prop where
  under : P.underlying t = some (.slice e)
  info : ∃ i, P.info? e = some i ∧ i.zero = some z ∧ i.size = size ∧ i.bytes = bytes
  cells : z.cells.size = size
  pos : 0 < size

theorem Elem.mk' {P : Program} {t e : TypeId} {z : Value} {size bytes : Nat} (hu : P.underlying t = some (.slice e))
    (hi : (P.info? e).map (fun i => (i.zero, i.size, i.bytes)) = some (some z, size, bytes)) (hc : z.cells.size = size) (hp : 0 < size) : Elem P t e z size bytes :=
  ⟨hu, info_parts hi, hc, hp⟩

/-! ### append of a slice that reads as a list -/
theorem own_slice {w : World} {base : Nat} {e : TypeId} {size n : Nat} {v : Value} {xs : List Value} (h : w.ownsRow base e size v n xs) : ∃ A k c, v = .slice A k c := by
  rcases h.2 with ⟨rfl, _⟩ | ⟨g, cap, _, rfl, _⟩
  · exact ⟨_, _, _, rfl⟩
  · exact ⟨_, _, _, rfl⟩
theorem own_len {w : World} {base : Nat} {e : TypeId} {size n : Nat} {A : Option Addr} {k c : Nat} {xs : List Value} (h : w.ownsRow base e size (.slice A k c) n xs) : k = n := by
  rcases h.2 with ⟨hv, hn⟩ | ⟨g, cap, _, hv, _⟩
  · injection hv with _ h2 _; omega
  · injection hv
section
variable {P : Program} (w : World)

theorem run_append_nilsrc {base : Nat} {t e : TypeId} {z : Value} {size bytes : Nat} (E : Elem P t e z size bytes) (ty : TypeId)
    {v : Value} {n : Nat} {xs : List Value} (hown : w.ownsRow base e size v n xs) (c : Nat) : (Builtin.append_ #[t, t] ty #[v, .slice none 0 c]).run P w = .ok v w := by
  obtain ⟨i, hi, _⟩ := E.info
  rcases hown.2 with ⟨rfl, rfl⟩ | ⟨g, cap, cur, rfl, _, _, hnc, _⟩
  · simp [Builtin.append_, run_underlying E.under, sizeOf, typeInfo, hi, Builtin.lenOf, Builtin.firstCells]
  · simp [Builtin.append_, run_underlying E.under, sizeOf, typeInfo, hi, Builtin.lenOf, Builtin.firstCells, hnc, storeCells]

theorem run_append_sl {base : Nat} {t e : TypeId} {z : Value} {size bytes : Nat} (E : Elem P t e z size bytes) (ty : TypeId)
    {v : Value} {n : Nat} {xs : List Value} (hown : w.ownsRow base e size v n xs)
    {S : Nat → Prop} {u : Value} {m : Nat} {news : List Value} (hr : Sl S w size u m news) (h1 : ∀ x ∈ news, x.oneCell' = true)
    (hlen : n + m ≤ maxLen) (hbytes : (n + m) * bytes ≤ 140737488355328) (hbase : base ≤ w.heap.size) :
    ∃ v' w', (Builtin.append_ #[t, t] ty #[v, u]).run P w = .ok v' w' ∧ w'.ownsRow base e size v' (n + m) (xs ++ news) ∧ w.grownBy w' v.ownBlock ∧
      (v'.ownBlock = v.ownBlock ∨ v'.ownBlock = some w.heap.size) := by
  obtain ⟨hl, A, c, rfl, hmc, hcm, hA0, hA⟩ := hr
  have hE := E
  obtain ⟨i, hi, hz, hsz, hby⟩ := E.info
  rcases Nat.eq_zero_or_pos m with hm | hm
  · subst hm
    obtain rfl : news = [] := List.eq_nil_of_length_eq_zero (by simpa using hl)
    rcases A with _ | ad
    · exact ⟨v, w, run_append_nilsrc w hE ty hown c, by simpa using hown, World.grownBy.refl w _, .inl rfl⟩
    · obtain ⟨v', w', hrun, h2, h3, _, h5⟩ := run_append_own_at (P := P) w base t ty e i z size bytes E.under hi hz hsz hby E.cells E.pos v n xs hown ad 0 c [] (by simp) (fun j u hu => by simp at hu) (fun u hu => by simp at hu) hlen hbytes hbase
      exact ⟨v', w', hrun, h2, h3, h5⟩
  · obtain ⟨b, o, rfl, _, hc⟩ := hA hm
    obtain ⟨v', w', hrun, h2, h3, _, h5⟩ := run_append_own_at (P := P) w base t ty e i z size bytes E.under hi hz hsz hby E.cells E.pos v n xs hown ⟨b, o, none⟩ m c news hl (fun j u hu => by rw [addr_add_none]; exact hc j u hu) h1 hlen hbytes hbase
    exact ⟨v', w', hrun, h2, h3, h5⟩

theorem wpList_append_sl {ops : Array Oper} {rest : List Oper} {o : Oper} {a : Act} {Q : Exit → Act → World → Prop} (hgd : o.guard = none) (s x : Operand) {t e : TypeId} {z : Value} {size bytes : Nat}
    (E : Elem P t e z size bytes) (ho : o.op = .call { callee := .builtin .append, args := #[s, x], argTypes := #[t, t] })
    {base : Nat} {v : Value} {n : Nat} {xs : List Value} (hown : w.ownsRow base e size v n xs)
    {S : Nat → Prop} {u : Value} {m : Nat} {news : List Value} (hr : Sl S w size u m news) (hs : a.eval s = v) (hx : a.eval x = u) (h1 : ∀ y ∈ news, y.oneCell' = true)
    (hlen : n + m ≤ maxLen) (hbytes : (n + m) * bytes ≤ 140737488355328) (hbase : base ≤ w.heap.size)
    (h : ∀ A k c w', w'.ownsRow base e size (.slice A k c) (n + m) (xs ++ news) → w.grownBy w' v.ownBlock → ((Value.slice A k c).ownBlock = v.ownBlock ∨ (Value.slice A k c).ownBlock = some w.heap.size) → wpList P ops Q rest (a.put o.dst (.slice A k c)) w') :
    wpList P ops Q (o :: rest) a w := by
  refine wpList_plain hgd fun K hK => ?_
  obtain ⟨v', w', hrun, h2, h3, h4⟩ := run_append_sl (P := P) w E o.type hown hr h1 hlen hbytes hbase
  obtain ⟨A, k, c, rfl⟩ := own_slice h2
  unfold Oper.wp execOp
  simp only [ho, resolve, invoke, builtin, Sem.run_bind, Sem.run_pure, Result.andThen_ok, List.map_toArray, List.map_cons, List.map_nil, hs, hx, hrun]
  exact hK _ _ (h A k c w' h2 h3 h4)
end

/-! ### Bytes -/

/-- The cells of bytes. -/
def bv (l : List UInt8) : List Value := l.map fun b => .int .u8 (b.toNat : Int)
theorem bv_length (l : List UInt8) : (bv l).length = l.length := by simp [bv]
theorem bv_append (l m : List UInt8) : bv (l ++ m) = bv l ++ bv m := by simp [bv]
theorem bv_one (l : List UInt8) : ∀ u ∈ bv l, u.oneCell' = true := by
  intro u hu
  obtain ⟨_, _, rfl⟩ := List.mem_map.1 hu
  rfl
theorem bv_at {l : List UInt8} {j : Nat} (h : j < l.length) : (bv l)[j]? = some (.int .u8 (l[j].toNat : Int)) := by simp [bv, List.getElem?_eq_getElem h]

/-- The slice value v reads as the bytes l; its block is one of S. -/
def Bs (S : Nat → Prop) (w : World) (v : Value) (l : List UInt8) : Prop := Sl S w 1 v l.length (bv l)
/-- The slice value v owns the bytes l, in a block from B on. -/
def Ob (e : TypeId) (w : World) (B : Nat) (v : Value) (l : List UInt8) : Prop := w.ownsRow B e 1 v l.length (bv l)

theorem Ob.nil (e : TypeId) (w : World) (B : Nat) : Ob e w B (.slice none 0 0) [] := World.ownsRow_nil w B e 1
theorem Ob.made (e : TypeId) (w : World) (B : Nat) (hB : B ≤ w.heap.size) {g : Nat} (hg : g = w.heap.size) : Ob e (w.alloc (.cells #[] e)) B (.slice (some ⟨g, 0, none⟩) 0 0) [] := by
  subst hg
  exact World.ownsRow_made w #[] 0 hB (by simp [maxLen]) (by simp)
theorem Ob.len {e : TypeId} {w : World} {B : Nat} {A : Option Addr} {k c : Nat} {l : List UInt8} (h : Ob e w B (.slice A k c) l) : k = l.length := own_len h
theorem Ob.bs {e : TypeId} {w : World} {B : Nat} {v : Value} {l : List UInt8} (h : Ob e w B v l) : Bs (fun b => B ≤ b ∧ b < w.heap.size) w v l := Sl.of_own (by omega) h

theorem Ob.alloc {e : TypeId} {w : World} {B : Nat} {v : Value} {l : List UInt8} (h : Ob e w B v l) (o : Obj) : Ob e (w.alloc o) B v l := World.ownsRow.alloc h o
theorem Ob.lower {e : TypeId} {w : World} {B B' : Nat} {v : Value} {l : List UInt8} (h : Ob e w B v l) (hB : B' ≤ B) : Ob e w B' v l := by
  obtain ⟨h1, h2⟩ := h
  refine ⟨h1, ?_⟩
  rcases h2 with h2 | ⟨g, cap, cur, hv, hg, r⟩
  · exact .inl h2
  · exact .inr ⟨g, cap, cur, hv, Nat.le_trans hB hg, r⟩
theorem Ob.drewN {e : TypeId} {w : World} {B : Nat} {v : Value} {l : List UInt8} (h : Ob e w B v l) (n : Nat) : Ob e (w.drewN n) B v l := h
/-- What the call owns is below the next call's first block: it stays. -/
theorem Ob.later {e : TypeId} {w w' : World} {B : Nat} {v : Value} {l : List UInt8} (h : Ob e w B v l) (hb : Below w.heap.size w w') : Ob e w' B v l := by
  obtain ⟨h1, h2⟩ := h
  refine ⟨h1, ?_⟩
  rcases h2 with h2 | ⟨g, cap, cur, hv, hg, hh, r⟩
  · exact .inl h2
  · exact .inr ⟨g, cap, cur, hv, hg, (hb.block g (lt_of_block hh)).trans hh, r⟩

/-- A new block of one byte reads as that byte. -/
theorem Bs.one (w : World) (e : TypeId) (x : Int) (h0 : 0 ≤ x) (h1 : x ≤ 255) {g : Nat} (hg : g = w.heap.size) : Bs (fun b => b = w.heap.size) (w.alloc (.cells #[.int .u8 x] e)) (.slice (some ⟨g, 0, none⟩) 1 1) [UInt8.ofNat x.toNat] := by
  subst hg
  refine ⟨by simp [bv], _, 1, rfl, by simp, by simp [maxLen], (fun h => by cases h), fun _ => ⟨_, 0, rfl, rfl, fun j u hu => ?_⟩⟩
  rcases j with _ | j
  · simp [bv] at hu
    subst hu
    rw [World.cell?_alloc_new]
    simp
    omega
  · simp [bv] at hu

theorem Bs.at {S : Nat → Prop} {w : World} {v : Value} {l : List UInt8} (h : Bs S w v l) : ∃ A c, v = .slice A l.length c ∧ l.length ≤ c ∧ c ≤ maxLen ∧ (A = none → c = 0) ∧
    (0 < l.length → ∃ b o, A = some ⟨b, o, none⟩ ∧ S b ∧ ∀ j (hj : j < l.length), w.cell? ⟨b, o + j, none⟩ = some (.int .u8 (l[j].toNat : Int))) := by
  obtain ⟨_, A, c, h2, h3, h4, h5, h6⟩ := h
  refine ⟨A, c, h2, h3, h4, h5, fun hn => ?_⟩
  obtain ⟨b, o, ha, hs, hc⟩ := h6 hn
  exact ⟨b, o, ha, hs, fun j hj => hc j _ (bv_at hj)⟩

theorem Bs.mk_ {S : Nat → Prop} {w : World} {l : List UInt8} {A : Option Addr} {c : Nat} (h3 : l.length ≤ c) (h4 : c ≤ maxLen) (h5 : A = none → c = 0)
    (h6 : 0 < l.length → ∃ b o, A = some ⟨b, o, none⟩ ∧ S b ∧ ∀ j (hj : j < l.length), w.cell? ⟨b, o + j, none⟩ = some (.int .u8 (l[j].toNat : Int))) : Bs S w (.slice A l.length c) l := by
  refine ⟨by simp [bv], A, c, rfl, h3, h4, h5, fun hn => ?_⟩
  obtain ⟨b, o, ha, hs, hc⟩ := h6 hn
  refine ⟨b, o, ha, hs, fun j u hu => ?_⟩
  have hj : j < l.length := by
    have := (List.getElem?_eq_some_iff.1 hu).1
    simpa [bv] using this
  rw [bv_at hj] at hu
  rw [hc j hj]
  exact hu

/-- A cut: what stands from byte k on. -/
theorem Bs.cut {S : Nat → Prop} {w : World} {l : List UInt8} {b o c : Nat} (h : Bs S w (.slice (some ⟨b, o, none⟩) l.length c) l) {k : Nat} (hk : k ≤ l.length) :
    Bs S w (.slice (if c = k then some ⟨b, o, none⟩ else some ⟨b, o + k, none⟩) (l.length - k) (c - k)) (l.drop k) := by
  obtain ⟨A', c', hv, h3, h4, h5, h6⟩ := h.at
  injection hv with hA _ hc
  subst hA hc
  rw [← List.length_drop]
  refine Bs.mk_ (by rw [List.length_drop]; omega) (by omega) (fun hn => by split at hn <;> cases hn) fun hn => ?_
  rw [List.length_drop] at hn
  obtain ⟨b', o', hA, hS, hc⟩ := h6 (by omega)
  injection hA with hA
  injection hA with hb ho
  subst hb ho
  rw [if_neg (by omega)]
  refine ⟨b, o + k, rfl, hS, fun j hj => ?_⟩
  rw [List.length_drop] at hj
  rw [Nat.add_assoc, hc (k + j) (by omega), List.getElem_drop]

/-- append of bytes onto bytes of the call's own. -/
theorem wpList_append_bs {P : Program} (w : World) {ops : Array Oper} {rest : List Oper} {o : Oper} {a : Act} {Q : Exit → Act → World → Prop} (hgd : o.guard = none) (s x : Operand) {t e : TypeId}
    (E : Elem P t e (.int .u8 0) 1 1) (ho : o.op = .call { callee := .builtin .append, args := #[s, x], argTypes := #[t, t] })
    {base : Nat} {v : Value} {l : List UInt8} (hown : Ob e w base v l)
    {S : Nat → Prop} {u : Value} {m : List UInt8} (hr : Bs S w u m) (hs : a.eval s = v) (hx : a.eval x = u)
    (hlen : l.length + m.length ≤ 140737488355328) (hbase : base ≤ w.heap.size)
    (h : ∀ A k c w', Ob e w' base (.slice A k c) (l ++ m) → w.grownBy w' v.ownBlock → ((Value.slice A k c).ownBlock = v.ownBlock ∨ (Value.slice A k c).ownBlock = some w.heap.size) → wpList P ops Q rest (a.put o.dst (.slice A k c)) w') :
    wpList P ops Q (o :: rest) a w :=
  wpList_append_sl w hgd s x E ho hown hr hs hx (bv_one _) (by simp only [maxLen]; omega) (by omega) hbase fun A k c w' h2 h3 h4 =>
    h A k c w' (by unfold Ob; rw [bv_append, List.length_append]; exact h2) h3 h4

/-- What the call owns from B on may turn; all else is as it was. -/
theorem below_grown_own {B : Nat} {w0 w w' : World} {e : TypeId} {size n : Nat} {v : Value} {xs : List Value} (h : Below B w0 w) (hown : w.ownsRow B e size v n xs) (hg : w.grownBy w' v.ownBlock) (hB : B ≤ w.heap.size) : Below B w0 w' :=
  h.grown hg hB fun k hk => (hown.lt k hk).1

/-! ### A block that is known whole -/

/-- Block g is just the cells cs, of element type t, none of them frozen. -/
def Blk (w : World) (g : Nat) (t : TypeId) (cs : Array Value) : Prop := w.heap[g]? = some (.cells cs t (0, 0))
section
variable {w w' : World} {g : Nat} {t : TypeId} {cs : Array Value}
theorem Blk.lt (h : Blk w g t cs) : g < w.heap.size := lt_of_block h
theorem Blk.cell (h : Blk w g t cs) (i : Nat) : w.cell? ⟨g, i, none⟩ = cs[i]? := by unfold Blk at h; simp [World.cell?, h]
theorem Blk.free (h : Blk w g t cs) (i : Nat) : w.frozen? ⟨g, i, none⟩ = false := by unfold Blk at h; simp [World.frozen?, h]
theorem Blk.new (w : World) (t : TypeId) (cs : Array Value) : Blk (w.alloc (.cells cs t)) w.heap.size t cs := heap_alloc_new w _
theorem Blk.drew (h : Blk w g t cs) : Blk w.drew g t cs := h
theorem Blk.drewN (h : Blk w g t cs) (n : Nat) : Blk (w.drewN n) g t cs := h
theorem Blk.alloc (h : Blk w g t cs) (o : Obj) : Blk (w.alloc o) g t cs := (Below.heap_alloc w o g h.lt).trans h
theorem Blk.put (h : Blk w g t cs) (i : Nat) (u : Value) : Blk (w.setCell ⟨g, i, none⟩ u) g t (cs.setIfInBounds i u) := by
  unfold Blk at h ⊢
  simp [World.setCell, Array.getElem?_modify, h]
theorem Blk.put1 {v : Value} (h : Blk w g t #[v]) (u : Value) : Blk (w.setCell ⟨g, 0, none⟩ u) g t #[u] := h.put 0 u
theorem Blk.far (h : Blk w g t cs) {p : Addr} (hp : g ≠ p.block) (u : Value) : Blk (w.setCell p u) g t cs := (Below.heap_setCell w p u g hp).trans h
theorem Blk.below {B : Nat} (h : Blk w g t cs) (hb : Below B w w') (hg : g < B) : Blk w' g t cs := (hb.block g hg).trans h
theorem Blk.later (h : Blk w g t cs) (hb : Below w.heap.size w w') : Blk w' g t cs := h.below hb h.lt
theorem Blk.grown {row : Option Nat} (h : Blk w g t cs) (hb : w.grownBy w' row) (hg : row ≠ some g) : Blk w' g t cs := (hb.block g h.lt (fun e => hg e.symm)).trans h
theorem Blk.ne {g' : Nat} {t' : TypeId} {cs' : Array Value} (h : Blk w g t cs) (h' : Blk w g' t' cs') (hne : t ≠ t') : g ≠ g' := by
  rintro rfl
  unfold Blk at h h'
  rw [h] at h'
  injection h' with h'
  injection h' with _ ht
  exact hne ht
/-- Rows of another element type lie elsewhere. -/
theorem own_ne {base : Nat} {e : TypeId} {size n : Nat} {v : Value} {xs : List Value} (h : w.ownsRow base e size v n xs) (hg : Blk w g t cs) (hne : e ≠ t) : v.ownBlock ≠ some g := by
  rcases h.2 with ⟨rfl, _⟩ | ⟨g', cap, cur, rfl, _, hh, _⟩
  · simp [Value.ownBlock]
  · intro he
    have e' : g' = g := by simpa [Value.ownBlock] using he
    subst e'
    exact Blk.ne (t := e) hh hg hne rfl
theorem Blk.kept {base : Nat} {e : TypeId} {size n : Nat} {v : Value} {xs : List Value} (hg : Blk w g t cs) (h : w.ownsRow base e size v n xs) (hb : w.grownBy w' v.ownBlock) (hne : e ≠ t) : Blk w' g t cs :=
  hg.grown hb (own_ne h hg hne)
theorem own_set {base : Nat} {e : TypeId} {size n : Nat} {v : Value} {xs : List Value} (h : w.ownsRow base e size v n xs) (hg : Blk w g t cs) (hne : e ≠ t) (i : Nat) (u : Value) : (w.setCell ⟨g, i, none⟩ u).ownsRow base e size v n xs :=
  ownsRow_setCell_other h (own_ne h hg hne) u
end

/-- Only draws were made. -/
def Drawn (w w' : World) : Prop := ∃ n, w' = w.drewN n
theorem Drawn.refl (w : World) : Drawn w w := ⟨0, rfl⟩
theorem Drawn.drewN {w w1 : World} (h : Drawn w w1) (n : Nat) : Drawn w (w1.drewN n) := by
  obtain ⟨k, rfl⟩ := h
  exact ⟨k + n, by rw [World.drewN_drewN]⟩
theorem Drawn.trans {w w1 w2 : World} (h : Drawn w w1) (h2 : Drawn w1 w2) : Drawn w w2 := by
  obtain ⟨n, rfl⟩ := h2
  exact h.drewN n
theorem Drawn.below {w w' : World} (h : Drawn w w') (B : Nat) : Below B w w' := by
  obtain ⟨n, rfl⟩ := h
  exact below_drewN (Below.refl _ _) n

theorem Drawn.cell {w w' : World} (h : Drawn w w') {p : Addr} {v : Value} (hc : w.cell? p = some v) : w'.cell? p = some v := by
  obtain ⟨n, rfl⟩ := h
  exact hc

/-- The frames that closures make. -/
theorem run_makeFunc (P : Program) (fn : Fn) (first cap : Array Value) (w : World) : (Instr.makeFunc fn first cap).run P w = .ok (.func fn first cap) w := rfl

/-- 2^64, kept behind a name: the walk counts a great numeral up. -/
def U64 : Nat := 18446744073709551616
theorem U64_eq : U64 = 18446744073709551616 := rfl

end Go.Proofs.YtpmndmgfoiagnaaDoor
