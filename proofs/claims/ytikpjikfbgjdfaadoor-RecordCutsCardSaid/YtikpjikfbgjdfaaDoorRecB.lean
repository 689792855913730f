/- record.Scan: its closure. -/
import Derived.Test.YtikpjikfbgjdfaaDoorRecG
import Derived.Test.YtikpjikfbgjdfaaDoorRecQ
import Derived.Deep.RegionLaw
namespace Go.Proofs.YtikpjikfbgjdfaaDoor
open Go Go.RowKit
set_option linter.unusedVariables false

/-- The cells of records. -/
def rcs (rs : List (Nat × List UInt8)) : List Value := rs.flatMap fun r => [.int .u64 (r.1 : Int), .string (st r.2)]
theorem rcs_len (rs : List (Nat × List UInt8)) : (rcs rs).length = rs.length * 2 := by
  induction rs with
  | nil => rfl
  | cons r rs ih => simp only [rcs, List.flatMap_cons, List.length_append, List.length_cons, List.length_nil] at ih ⊢; omega
theorem rcs_append (a b : List (Nat × List UInt8)) : rcs (a ++ b) = rcs a ++ rcs b := by simp [rcs]
theorem rcs_one (rs : List (Nat × List UInt8)) : ∀ u ∈ rcs rs, u.oneCell' = true := by
  intro u hu
  obtain ⟨r, _, hu⟩ := List.mem_flatMap.1 hu
  simp at hu
  rcases hu with rfl | rfl <;> rfl
theorem elemRec : Elem Tryd.prog 38 24 (.agg #[.int .u64 0, .string ⟨#[]⟩]) 2 24 := Elem.mk' Tryd.underlying38 (by kernel_rfl) rfl (by omega)
/-- The slice value v owns the records rs, in a block from B on. -/
def Ro (w : World) (B : Nat) (v : Value) (rs : List (Nat × List UInt8)) : Prop := w.ownsRow B 24 2 v rs.length (rcs rs)

/-- append as one step of a region that draws: w0 is the world without the draws. -/
theorem step_append_sl {P : Program} {w : World} {ops : Array Oper} {o : Oper} {a : Act} {K : Act → World → Prop} {Q : Exit → Act → World → Prop} {F : Prop} (w0 : World) (hd : Drawn w0 w) (hgd : o.guard = none) (s x : Operand) {t e : TypeId} {z : Value} {size bytes : Nat}
    (E : Elem P t e z size bytes) (ho : o.op = .call { callee := .builtin .append, args := #[s, x], argTypes := #[t, t] })
    {base : Nat} {v : Value} {n : Nat} {xs : List Value} (hown : w0.ownsRow base e size v n xs)
    {S : Nat → Prop} {u : Value} {m : Nat} {news : List Value} (hr : Sl S w0 size u m news) (hs : a.eval s = v) (hx : a.eval x = u) (h1 : ∀ y ∈ news, y.oneCell' = true)
    (hlen : n + m ≤ maxLen) (hbytes : (n + m) * bytes ≤ 140737488355328) (hbase : base ≤ w0.heap.size)
    (h : ∀ A k c w', w'.ownsRow base e size (.slice A k c) (n + m) (xs ++ news) → w0.grownBy w' v.ownBlock → K (a.put o.dst (.slice A k c)) w') :
    if Region.wanted o (yielded ops a.tmps) = true then Oper.wp P o a w K Q else F := by
  have hw : Region.wanted o (yielded ops a.tmps) = true := by simp [Region.wanted, hgd]
  rw [if_pos hw]
  obtain ⟨d, rfl⟩ := hd
  obtain ⟨v', w', hrun, h2, h3, h4⟩ := run_append_sl (P := P) (w0.drewN d) E o.type hown (Sl.drewN hr d) h1 hlen hbytes hbase
  obtain ⟨A, k, c, rfl⟩ := own_slice h2
  unfold Oper.wp execOp
  simp only [ho, resolve, invoke, builtin, Sem.run_bind, Sem.run_pure, Result.andThen_ok, List.map_toArray, List.map_cons, List.map_nil, hs, hx, hrun]
  exact h A k c w' h2 ⟨h3.os, h3.tape, h3.output, h3.size, h3.block⟩

/-- A new block of one record reads as that record. -/
theorem Sl.newrec {S : Nat → Prop} (w : World) (r : Nat × List UInt8) {g : Nat} (hg : g = w.heap.size) (hS : S g) :
    Sl S (w.alloc (.cells #[.int .u64 (r.1 : Int), .string (st r.2)] 24)) 2 (.slice (some ⟨g, 0, none⟩) 1 1) 1 (rcs [r]) := by
  subst hg
  refine ⟨by simp [rcs], _, 1, rfl, by simp, by simp [maxLen], (fun h => by cases h), fun _ => ⟨_, 0, rfl, hS, fun j v hu => ?_⟩⟩
  rw [World.cell?_alloc_new]
  rw [Nat.zero_add]
  simpa [rcs] using hu

/-- Two blocks of other types are written. -/
theorem ro_two {w : World} {B : Nat} {v : Value} {rs : List (Nat × List UInt8)} {r : Nat × List UInt8} {e : TypeId} {t u : TypeId} {b b' : Nat} {cs cs' : Array Value} (h : w.ownsRow B e 2 v (rs.length + 1) (rcs rs ++ rcs [r])) (hb : Blk w b t cs) (hb' : Blk w b' u cs') (h1 : e ≠ t) (h2 : e ≠ u) (hne : b ≠ b') (x y : Value) :
    ((w.setCell ⟨b, 0, none⟩ x).setCell ⟨b', 0, none⟩ y).ownsRow B e 2 v (rs ++ [r]).length (rcs (rs ++ [r])) := by
  rw [rcs_append, List.length_append]
  exact own_set (own_set h hb h1 0 x) (hb'.far (p := ⟨b, 0, none⟩) hne.symm x) h2 0 y

set_option maxHeartbeats 1000000 in
set_option maxRecDepth 100000 in
theorem keep_any (bl ba B : Nat) (A : Option Addr) (k c : Nat) (rs : List (Nat × List UInt8)) (r : Nat × List UInt8) (n a : Nat) (w : World)
    (hl : Blk w bl 38 #[.slice A k c]) (ha : Blk w ba 3 #[.int .i64 (a : Int)]) (hown : Ro w B (.slice A k c) rs) (hB : B ≤ w.heap.size) (hbl : B ≤ bl) (hba : B ≤ ba) (hrs : rs.length ≤ 1099511627776) (hna : a + n ≤ 1099511627776) :
    Calls Tryd.prog 35 #[recV r, .int .i64 n, .pointer (some ⟨bl, 0, none⟩), .pointer (some ⟨ba, 0, none⟩)] w fun e w' => e = .returned (.tuple #[]) ∧ ∃ A' k' c',
      Blk w' bl 38 #[.slice A' k' c'] ∧ Blk w' ba 3 #[.int .i64 ((a + n : Nat) : Int)] ∧ Ro w' B (.slice A' k' c') (rs ++ [r]) ∧ Below B w w' := by
  obtain ⟨q, t⟩ := r
  unfold recV
  have c0 : (w.alloc (.cells #[.int .u64 (q : Int), .string (st t)] 24)).cell? ⟨bl, 0, none⟩ = some (.slice A k c) := (hl.alloc _).cell 0
  have c1 : (w.alloc (.cells #[.int .u64 (q : Int), .string (st t)] 24)).cell? ⟨ba, 0, none⟩ = some (.int .i64 (a : Int)) := (ha.alloc _).cell 0
  have hwr : IntKind.i64.wrap ((a : Int) + (n : Int)) = ((a + n : Nat) : Int) := by rw [IntWalk.i64_in _ (by omega)]; omega
  simp only
  have hown1 : (w.alloc (.cells #[.int .u64 (q : Int), .string (st t)] 24)).ownsRow B 24 2 (.slice A k c) rs.length (rcs rs) := World.ownsRow.alloc hown _
  have q1 : Below B w (w.alloc (.cells #[.int .u64 (q : Int), .string (st t)] 24)) := (Below.refl _ _).alloc hB _
  have hl1 := hl.alloc (.cells #[.int .u64 (q : Int), .string (st t)] 24)
  have ha1 := ha.alloc (.cells #[.int .u64 (q : Int), .string (st t)] 24)
  have hn := Blk.new w 24 #[.int .u64 (q : Int), .string (st t)]
  have hsz : B ≤ (w.alloc (.cells #[.int .u64 (q : Int), .string (st t)] 24)).heap.size := by simp; omega
  go_enter Tryd.func35, Tryd.ntmps35
  go_wp2_with fail
  generalize hw1 : w.alloc (.cells #[.int .u64 (q : Int), .string (st t)] 24) = w1 at *
  have d0 : w1.cell? ⟨w.heap.size, 0, none⟩ = some (.int .u64 (q : Int)) := hn.cell 0
  have d1 : w1.cell? ⟨w.heap.size, 1, none⟩ = some (.string (st t)) := hn.cell 1
  have a0 : (w1.alloc (.cells #[.int .u64 (q : Int), .string (st t)] 24)).cell? ⟨bl, 0, none⟩ = some (.slice A k c) := (hl1.alloc _).cell 0
  have a1 : (w1.alloc (.cells #[.int .u64 (q : Int), .string (st t)] 24)).cell? ⟨ba, 0, none⟩ = some (.int .i64 (a : Int)) := (ha1.alloc _).cell 0
  have a2 : (w1.alloc (.cells #[.int .u64 (q : Int), .string (st t)] 24)).cell? ⟨w.heap.size, 0, none⟩ = some (.int .u64 (q : Int)) := (hn.alloc _).cell 0
  have a3 : (w1.alloc (.cells #[.int .u64 (q : Int), .string (st t)] 24)).cell? ⟨w.heap.size, 1, none⟩ = some (.string (st t)) := (hn.alloc _).cell 1
  have f0 := hl1.free 0
  have f1 := ha1.free 0
  have HO := Lib.hid hown1
  have hne : bl ≠ ba := Blk.ne hl ha (by decide)
  have hne2 : ba ≠ bl := hne.symm
  clear hw1 hown hl ha hn hown1
  go_region_law (refine step_append_sl (w1.alloc (.cells #[.int .u64 (q : Int), .string (st t)] 24)) (by first | exact ⟨0, rfl⟩ | exact ⟨1, rfl⟩ | exact ⟨2, rfl⟩ | exact ⟨3, rfl⟩) rfl (.tmp 6) (.tmp 8) elemRec rfl (World.ownsRow.alloc HO.out _) (Sl.newrec (S := fun _ => True) _ (q, t) rfl trivial) rfl rfl (rcs_one _) (by simp only [maxLen]; omega) (by omega) (by simp; omega) ?_; intro A2 k2 c2 w2 hown2 hg2; have hl2 := (hl1.alloc _).kept (World.ownsRow.alloc HO.out _) hg2 (by decide); have ha2 := (ha1.alloc _).kept (World.ownsRow.alloc HO.out _) hg2 (by decide); have g0 := hl2.free 0; have g1 := ha2.free 0; have g2 := hl2.cell 0; have g3 := ha2.cell 0; simp at g2 g3)
  all_goals
    go_wp2_with fail
    go_end0
    exact ⟨rfl, A2, k2, c2, (hl2.put1 _).far (p := ⟨ba, 0, none⟩) hne _, by rw [Int.natCast_add]; exact (ha2.far (p := ⟨bl, 0, none⟩) hne2 _).put1 _, ro_two hown2 hl2 ha2 (by decide) (by decide) hne _ _, ((below_grown_own (q1.alloc hsz _) (World.ownsRow.alloc HO.out _) hg2 (by simp; omega)).setCell hbl _).setCell hba _⟩
end Go.Proofs.YtikpjikfbgjdfaaDoor
