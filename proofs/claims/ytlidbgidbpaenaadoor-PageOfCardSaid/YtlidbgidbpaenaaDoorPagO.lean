/- lapstoneref10.Of: what it returns. -/
import Derived.Test.YtlidbgidbpaenaaDoorPagU
import Derived.Test.YtlidbgidbpaenaaDoorRef3U
import Derived.Test.YtlidbgidbpaenaaDoorSumD
import Derived.Test.YtlidbgidbpaenaaDoorSumB
import Derived.RegionTactic
namespace Go.Proofs.YtlidbgidbpaenaaDoor
open Go Go.RowKit
set_option linter.unusedVariables false

def zPg : Array Value := #[.bool false, .int .i64 0, .slice none 0 0]
theorem rdText_err {l : List UInt8} {er : Nat} (h : er ≠ 0) : rdText l er = ([], l, er) := by unfold rdText; rw [if_pos h]
theorem rdCells_err : ∀ (n : Nat) (l : List UInt8) {er : Nat} (acc : List Cel), er ≠ 0 → (rdCells n (l, er) acc).2.2 = er
  | 0, l, er, acc, _ => rfl
  | n + 1, l, er, acc, h => by
    rw [rdCells]
    simp only [rdText_err h]
    exact rdCells_err n l _ h
theorem pgIn_flag {f s1 : List UInt8} {b : Bool} {e1 : Nat} (h1 : rdFlag f 0 = (b, s1, e1)) (he : e1 ≠ 0) : pgIn f = none := by
  unfold pgIn
  rw [h1]
  simp only
  have e2 : ∀ m : Int, rdCount s1 e1 m = (0, s1, e1) := fun m => by unfold rdCount; rw [if_pos he]
  rw [e2]
  simp only
  rw [e2]
  simp only [rdCells]
  refine if_neg ?_
  intro h
  have := h.1
  unfold rdEnd at this
  rw [if_neg (fun h => he h.1)] at this
  exact he this
theorem pgIn_next {f s1 s2 : List UInt8} {b : Bool} {n e2 : Nat} (h1 : rdFlag f 0 = (b, s1, 0)) (h2 : rdCount s1 0 256 = (n, s2, e2)) (he : e2 ≠ 0) : pgIn f = none := by
  unfold pgIn
  rw [h1]
  simp only
  rw [h2]
  simp only
  have e3 : ∀ m : Int, rdCount s2 e2 m = (0, s2, e2) := fun m => by unfold rdCount; rw [if_pos he]
  rw [e3]
  simp only [rdCells]
  refine if_neg ?_
  intro h
  have := h.1
  unfold rdEnd at this
  rw [if_neg (fun h => he h.1)] at this
  exact he this
/-- What the cells from here on make of it. -/
def pgEnd (b : Bool) (n : Nat) : List Cel × (List UInt8 × Nat) → Option (Bool × Nat × List Cel)
  | (cs, s, e) => if rdEnd s e = 0 ∧ pgChk (n : Int) cs = 0 then some (b, n, cs) else none
theorem pgEnd_err {b : Bool} {n : Nat} {x : List Cel × (List UInt8 × Nat)} (h : x.2.2 ≠ 0) : pgEnd b n x = none := by
  obtain ⟨cs, s, e⟩ := x
  unfold pgEnd
  simp only at h ⊢
  refine if_neg ?_
  intro h'
  have := h'.1
  unfold rdEnd at this
  rw [if_neg (fun h' => h h'.1)] at this
  exact h this
theorem pgIn_cells {f s1 s2 s3 : List UInt8} {b : Bool} {n c e3 : Nat} (h1 : rdFlag f 0 = (b, s1, 0)) (h2 : rdCount s1 0 256 = (n, s2, 0)) (h3 : rdCount s2 0 2048 = (c, s3, e3)) : pgIn f = pgEnd b n (rdCells c (s3, e3) []) := by
  unfold pgIn pgEnd
  rw [h1]
  simp only
  rw [h2]
  simp only
  rw [h3]
theorem rdFlag_len (l : List UInt8) : (rdFlag l 0).2.1.length ≤ l.length := (rdFlag_bd l 0 (Nat.zero_le _)).1

/-- What the loop of Of has. -/
structure ROf (w wr : World) (g7 g14 : Nat) (b : Bool) (n c : Nat) (sl : Value) (cs : List Cel) : Prop where
  page : Blk wr g7 24 #[.bool b, .int .i64 (n : Int), sl]
  own : Co wr (w.heap.size + 1) sl cs
  cnt : Blk wr g14 76 (fldN c)
  res : Blk wr w.heap.size 24 zPg
  non : Blk wr (w.heap.size + 1) 24 zPg
  below : Below w.heap.size w wr
  few : ∀ c ∈ cs, c.1.length ≤ 65536 ∧ c.2.length ≤ 65536

/-- What Of returns. -/
def PgOfPost (l : List UInt8) (w : World) (e : Ending) (w' : World) : Prop :=
  (∀ b n cs, pgOfB l = some (b, n, cs) → ∃ v, e = .returned (.tuple #[v, .int .i64 0]) ∧ PgIs w.heap.size w' v b (n : Int) cs) ∧
      (pgOfB l = none → e = .returned (.tuple #[.agg #[.bool false, .int .i64 0, .slice none 0 0], .int .i64 101])) ∧ Below w.heap.size w w'
theorem PgOfPost.no {l : List UInt8} {w w' : World} {e : Ending} (h : Hid (pgOfB l = none)) (he : e = .returned (.tuple #[.agg #[.bool false, .int .i64 0, .slice none 0 0], .int .i64 101])) (hb : Below w.heap.size w w') : PgOfPost l w e w' :=
  ⟨fun b n cs h' => (by rw [h.out] at h'; cases h'), fun _ => he, hb⟩
theorem PgOfPost.yes {l : List UInt8} {w w' : World} {e : Ending} {b : Bool} {n : Nat} {cs : List Cel} {A : Option Addr} {c : Nat} (h : Hid (pgOfB l = some (b, n, cs))) (he : e = .returned (.tuple #[.agg #[.bool b, .int .i64 (n : Int), .slice A cs.length c], .int .i64 0])) (hc : Cs (fun x => w.heap.size ≤ x ∧ x < w'.heap.size) w' (.slice A cs.length c) cs) (hb : Below w.heap.size w w') :
    PgOfPost l w e w' := by
  refine ⟨fun b' n' cs' h' => ?_, fun h' => (by rw [h.out] at h'; cases h'), hb⟩
  rw [h.out] at h'
  injection h' with h'
  injection h' with h1 h'
  injection h' with h2 h3
  subst h1 h2 h3
  exact ⟨_, he, A, c, rfl, hc⟩

set_option maxHeartbeats 3000000 in
set_option maxRecDepth 100000 in
theorem refPgOf_any (l : List UInt8) (w : World) (hl : l.length ≤ 1099511627776) :
    Calls Tryd.prog 19 #[.string (st l)] w (PgOfPost l w) := by
  have b0 : Blk ((w.alloc (.cells zPg 24)).alloc (.cells zPg 24)) w.heap.size 24 zPg := (Blk.new _ _ _).alloc _
  have b1 : Blk ((w.alloc (.cells zPg 24)).alloc (.cells zPg 24)) (w.heap.size + 1) 24 zPg := Blk.new1 _ _ _ _
  have q : Below w.heap.size w ((w.alloc (.cells zPg 24)).alloc (.cells zPg 24)) := ((Below.refl _ _).alloc (Nat.le_refl _) _).alloc (by simp) _
  have HO0 : Hid (pgOfB l = match openB l with | .error _ => none | .ok f => pgIn f) := rfl
  unfold zPg at b0 b1 q
  go_enter Tryd.func19, Tryd.ntmps19
  go_wp2_with fail
  generalize hW : (w.alloc (.cells #[.bool false, .int .i64 0, .slice none 0 0] 24)).alloc (.cells #[.bool false, .int .i64 0, .slice none 0 0] 24) = W at *
  clear hW
  refine (refOpen_any l W hl).mono ?_
  rintro e w1 ⟨rfl, hbl⟩
  have q := q.trans (hbl.mono q.size)
  have b0 := b0.later hbl
  have b1 := b1.later hbl
  have f00 := b0.free 0
  have f01 := b0.free 1
  have f02 := b0.free 2
  have c00 : (w1).cell? ⟨w.heap.size, 0, none⟩ = some (.bool false) := b0.cell 0
  have c01 : (w1).cell? ⟨w.heap.size, 1, none⟩ = some (.int .i64 0) := b0.cell 1
  have c02 : (w1).cell? ⟨w.heap.size, 2, none⟩ = some (.slice none 0 0) := b0.cell 2
  have c10 : (w1).cell? ⟨w.heap.size + 1, 0, none⟩ = some (.bool false) := b1.cell 0
  have c11 : (w1).cell? ⟨w.heap.size + 1, 1, none⟩ = some (.int .i64 0) := b1.cell 1
  have c12 : (w1).cell? ⟨w.heap.size + 1, 2, none⟩ = some (.slice none 0 0) := b1.cell 2
  clear hbl
  cases ho : openB l with
  | error er =>
    have HN : Hid (pgOfB l = none) := by rw [Hid, HO0.out, ho]
    have t1 : ((er : Int) != 0) = true := by
      rw [bne_iff_ne]
      rcases openB_errs ho with rfl | rfl <;> decide
    unfold refOpenV
    clear ho HO0
    go_wp2_with fail
    exact bodyPost_ret (results_cell2 rfl _ _ w.heap.size rfl (b0.put3 _ _ _) pageTy) rfl (PgOfPost.no HN rfl (below_put3 q (Nat.le_refl _) _ _ _))
  | ok f =>
    have hfl : f.length ≤ 1099511627776 := openB_lens ho hl
    have HO1 : Hid (pgOfB l = pgIn f) := by rw [Hid, HO0.out, ho]
    have B0 := Lib.hid (b0.alloc (.cells #[.bool false, .int .i64 0, .slice none 0 0] 24))
    have B1 := Lib.hid (b1.alloc (.cells #[.bool false, .int .i64 0, .slice none 0 0] 24))
    have B7 := Lib.hid (Blk.new w1 24 #[.bool false, .int .i64 0, .slice none 0 0])
    have hg7 := b1.lt
    have q := q.alloc q.size (.cells #[.bool false, .int .i64 0, .slice none 0 0] 24)
    unfold refOpenV
    clear ho HO0 f00 f01 f02 c00 c01 c02 c10 c11 c12 b0 b1
    go_wp2_with fail
    generalize hW : w1.alloc (.cells #[.bool false, .int .i64 0, .slice none 0 0] 24) = W1 at *
    clear hW
    obtain ⟨g7, hg7e⟩ : ∃ g, w1.heap.size = g := ⟨_, rfl⟩
    rw [hg7e] at B7 hg7 ⊢
    clear hg7e
    refine (refTakeF_any f W1 hfl).mono ?_
    rintro e w3 ⟨rfl, hbl⟩
    have q := q.trans (hbl.mono q.size)
    have B0 := Lib.hid (B0.out.later hbl)
    have B1 := Lib.hid (B1.out.later hbl)
    have B7 := Lib.hid (B7.out.later hbl)
    have hl1 := rdFlag_len f
    obtain ⟨X1, hX1⟩ : ∃ X, rdFlag f 0 = X := ⟨_, rfl⟩
    rw [hX1] at hl1 ⊢
    have HX1 := Lib.hid hX1
    obtain ⟨b, s1, e1⟩ := X1
    unfold takeF fldF
    simp only at hl1 ⊢
    have hE1 : e1 ≤ 1000 := by have := (rdFlag_bd f 0 (Nat.zero_le _)).2; rw [hX1] at this; exact this
    have B0 := Lib.hid (B0.out.alloc (.cells #[.int .i64 2, .int .u64 0, .string (st []), .bool b, .int .i64 0] 76))
    have B1 := Lib.hid (B1.out.alloc (.cells #[.int .i64 2, .int .u64 0, .string (st []), .bool b, .int .i64 0] 76))
    have B7 := Lib.hid (B7.out.alloc (.cells #[.int .i64 2, .int .u64 0, .string (st []), .bool b, .int .i64 0] 76))
    have B8 := Lib.hid (Blk.new w3 76 #[.int .i64 2, .int .u64 0, .string (st []), .bool b, .int .i64 0])
    have q := q.alloc q.size (.cells #[.int .i64 2, .int .u64 0, .string (st []), .bool b, .int .i64 0] 76)
    clear hbl hX1
    go_wp2_with fail
    generalize hW : w3.alloc (.cells #[.int .i64 2, .int .u64 0, .string (st []), .bool b, .int .i64 0] 76) = W3 at *
    clear hW
    obtain ⟨g8, hg8e⟩ : ∃ g, w3.heap.size = g := ⟨_, rfl⟩
    rw [hg8e] at B8 ⊢
    clear hg8e
    have kt := refTakeC_any s1 256 W3 (by omega) (by omega)
    rw [show ((256 : Nat) : Int) = 256 from rfl] at kt
    refine kt.mono ?_
    rintro e w4 ⟨rfl, hbl⟩
    have q := q.trans (hbl.mono q.size)
    have B0 := Lib.hid (B0.out.later hbl)
    have B1 := Lib.hid (B1.out.later hbl)
    have B7 := Lib.hid (B7.out.later hbl)
    have B8 := Lib.hid (B8.out.later hbl)
    have hl2 := rdCount_bd s1 0 256 (Nat.zero_le _)
    rw [show ((256 : Nat) : Int) = 256 from rfl] at hl2
    obtain ⟨X2, hX2⟩ : ∃ X, rdCount s1 0 256 = X := ⟨_, rfl⟩
    rw [hX2] at hl2 ⊢
    have HX2 := Lib.hid hX2
    obtain ⟨n, s2, e2⟩ := X2
    unfold takeN fldN
    simp only at hl2 ⊢
    have B0 := Lib.hid (B0.out.alloc (.cells #[.int .i64 3, .int .u64 (n : Int), .string (st []), .bool false, .int .i64 0] 76))
    have B1 := Lib.hid (B1.out.alloc (.cells #[.int .i64 3, .int .u64 (n : Int), .string (st []), .bool false, .int .i64 0] 76))
    have B7 := Lib.hid (B7.out.alloc (.cells #[.int .i64 3, .int .u64 (n : Int), .string (st []), .bool false, .int .i64 0] 76))
    have B8 := Lib.hid (B8.out.alloc (.cells #[.int .i64 3, .int .u64 (n : Int), .string (st []), .bool false, .int .i64 0] 76))
    have B11 := Lib.hid (Blk.new w4 76 #[.int .i64 3, .int .u64 (n : Int), .string (st []), .bool false, .int .i64 0])
    have q := q.alloc q.size (.cells #[.int .i64 3, .int .u64 (n : Int), .string (st []), .bool false, .int .i64 0] 76)
    clear hbl hX2 kt
    go_wp2_with fail
    generalize hW : w4.alloc (.cells #[.int .i64 3, .int .u64 (n : Int), .string (st []), .bool false, .int .i64 0] 76) = W4 at *
    clear hW
    obtain ⟨g11, hg11e⟩ : ∃ g, w4.heap.size = g := ⟨_, rfl⟩
    rw [hg11e] at B11 ⊢
    clear hg11e
    have kt := refTakeC_any s2 2048 W4 (by omega) (by omega)
    rw [show ((2048 : Nat) : Int) = 2048 from rfl] at kt
    refine kt.mono ?_
    rintro e w5 ⟨rfl, hbl⟩
    have q := q.trans (hbl.mono q.size)
    have B0 := Lib.hid (B0.out.later hbl)
    have B1 := Lib.hid (B1.out.later hbl)
    have B7 := Lib.hid (B7.out.later hbl)
    have B8 := Lib.hid (B8.out.later hbl)
    have B11 := Lib.hid (B11.out.later hbl)
    have hl3 := rdCount_bd s2 0 2048 (Nat.zero_le _)
    rw [show ((2048 : Nat) : Int) = 2048 from rfl] at hl3
    obtain ⟨X3, hX3⟩ : ∃ X, rdCount s2 0 2048 = X := ⟨_, rfl⟩
    rw [hX3] at hl3 ⊢
    have HX3 := Lib.hid hX3
    obtain ⟨c, s3, e3⟩ := X3
    unfold takeN fldN
    simp only at hl3 ⊢
    have n0 := B0.out.lt
    have n1 := B1.out.lt
    have n7 := B7.out.lt
    have n8 := B8.out.lt
    have n11 := B11.out.lt
    have f00 := B0.out.free 0
    have f01 := B0.out.free 1
    have f02 := B0.out.free 2
    have c00 : (w5).cell? ⟨w.heap.size, 0, none⟩ = some (.bool false) := B0.out.cell 0
    have c01 : (w5).cell? ⟨w.heap.size, 1, none⟩ = some (.int .i64 0) := B0.out.cell 1
    have c02 : (w5).cell? ⟨w.heap.size, 2, none⟩ = some (.slice none 0 0) := B0.out.cell 2
    have c10 : (w5).cell? ⟨w.heap.size + 1, 0, none⟩ = some (.bool false) := B1.out.cell 0
    have c11 : (w5).cell? ⟨w.heap.size + 1, 1, none⟩ = some (.int .i64 0) := B1.out.cell 1
    have c12 : (w5).cell? ⟨w.heap.size + 1, 2, none⟩ = some (.slice none 0 0) := B1.out.cell 2
    by_cases h1 : e1 = 0
    · by_cases h2 : e2 = 0
      · by_cases h3 : e3 = 0
        · subst h1 h2 h3
          have HPG : Hid (pgOfB l = pgEnd b n (rdCells c (s3, 0) [])) := HO1.out.trans (pgIn_cells HX1.out HX2.out HX3.out)
          have f70 := B7.out.free 0
          have f71 := B7.out.free 1
          have c70 : (w5).cell? ⟨g7, 0, none⟩ = some (.bool false) := B7.out.cell 0
          have c71 : (w5).cell? ⟨g7, 1, none⟩ = some (.int .i64 0) := B7.out.cell 1
          have c72 : (w5).cell? ⟨g7, 2, none⟩ = some (.slice none 0 0) := B7.out.cell 2
          have c83 : w5.cell? ⟨g8, 3, none⟩ = some (.bool b) := B8.out.cell 3
          have c11 : w5.cell? ⟨g11, 1, none⟩ = some (.int .u64 (n : Int)) := B11.out.cell 1
          have hwn : IntKind.i64.wrap (n : Int) = (n : Int) := IntWalk.i64_in _ (by omega)
          go_wp2_with fail
          go_region
          have ne0 : w.heap.size ≠ g7 := by omega
          have ne1 : w.heap.size + 1 ≠ g7 := by omega
          have b7 : Blk ((((w5.setCell ⟨g7, 0, none⟩ (.bool b)).setCell ⟨g7, 1, none⟩ (.int .i64 (n : Int))).alloc (.cells #[.int .i64 3, .int .u64 (c : Int), .string (st []), .bool false, .int .i64 0] 76)).drew) g7 24 #[.bool b, .int .i64 (n : Int), .slice none 0 0] := (((B7.out.put 0 _).put 1 _).alloc _).drew
          have b0 : Blk ((((w5.setCell ⟨g7, 0, none⟩ (.bool b)).setCell ⟨g7, 1, none⟩ (.int .i64 (n : Int))).alloc (.cells #[.int .i64 3, .int .u64 (c : Int), .string (st []), .bool false, .int .i64 0] 76)).drew) w.heap.size 24 zPg := (((B0.out.far (p := ⟨g7, 0, none⟩) ne0 _).far (p := ⟨g7, 1, none⟩) ne0 _).alloc _).drew
          have b1 : Blk ((((w5.setCell ⟨g7, 0, none⟩ (.bool b)).setCell ⟨g7, 1, none⟩ (.int .i64 (n : Int))).alloc (.cells #[.int .i64 3, .int .u64 (c : Int), .string (st []), .bool false, .int .i64 0] 76)).drew) (w.heap.size + 1) 24 zPg := (((B1.out.far (p := ⟨g7, 0, none⟩) ne1 _).far (p := ⟨g7, 1, none⟩) ne1 _).alloc _).drew
          have b14 : Blk ((((w5.setCell ⟨g7, 0, none⟩ (.bool b)).setCell ⟨g7, 1, none⟩ (.int .i64 (n : Int))).alloc (.cells #[.int .i64 3, .int .u64 (c : Int), .string (st []), .bool false, .int .i64 0] 76)).drew) w5.heap.size 76 (fldN c) := by
            have := Blk.new ((w5.setCell ⟨g7, 0, none⟩ (.bool b)).setCell ⟨g7, 1, none⟩ (.int .i64 (n : Int))) 76 (fldN c)
            simp only [World.size_setCell] at this
            exact this.drew
          have q6 : Below w.heap.size w ((((w5.setCell ⟨g7, 0, none⟩ (.bool b)).setCell ⟨g7, 1, none⟩ (.int .i64 (n : Int))).alloc (.cells #[.int .i64 3, .int .u64 (c : Int), .string (st []), .bool false, .int .i64 0] 76)).drew) := (((q.setCell (p := ⟨g7, 0, none⟩) (show w.heap.size ≤ g7 by omega) _).setCell (p := ⟨g7, 1, none⟩) (show w.heap.size ≤ g7 by omega) _).alloc (by simpa using q.size) _).drew
          have R0 : ROf w ((((w5.setCell ⟨g7, 0, none⟩ (.bool b)).setCell ⟨g7, 1, none⟩ (.int .i64 (n : Int))).alloc (.cells #[.int .i64 3, .int .u64 (c : Int), .string (st []), .bool false, .int .i64 0] 76)).drew) g7 w5.heap.size b n c (.slice none 0 0) [] := ⟨b7, Co.nil _ _, b14, b0, b1, q6, fun c hc => by cases hc⟩
          have hc2048 : c ≤ 2048 := hl3.1
          have hn256 : n ≤ 256 := hl2.1
          have hl3' : s3.length ≤ 1099511627776 := by omega
          clear b7 b0 b1 b14 q6 HX1 HX2 HX3 HO1 B0 B1 B7 B8 B11 f00 f01 f02 c00 c01 c02 c10 c11 c12 f70 f71 c70 c71 c72 c83 q hl1 hl2 hl3
          generalize hW : (((w5.setCell ⟨g7, 0, none⟩ (.bool b)).setCell ⟨g7, 1, none⟩ (.int .i64 (n : Int))).alloc (.cells #[.int .i64 3, .int .u64 (c : Int), .string (st []), .bool false, .int .i64 0] 76)).drew = W5 at *
          clear hW
          obtain ⟨g14, hg14⟩ : ∃ g, w5.heap.size = g := ⟨_, rfl⟩
          rw [hg14] at R0 ⊢
          clear hg14
          go_wp2_with fail
          go_loopw [15, 17] (fun sv kv wr => ∃ (sl : Value) (cs : List Cel) (lr : List UInt8), sv = .string (st lr) ∧ kv = .int .u64 (cs.length : Int) ∧ cs.length ≤ c ∧ lr.length ≤ 1099511627776 ∧ ROf w wr g7 g14 b n c sl cs ∧ Hid (pgOfB l = pgEnd b n (rdCells (c - cs.length) (lr, 0) cs))) (fun _ kv _ => c - (intOf kv).toNat)
          case atStart => exact ⟨_, [], s3, rfl, rfl, Nat.zero_le _, hl3', R0, HPG⟩
          case round =>
            obtain ⟨sl, cs, lr, rfl, rfl, hi, hlr, hst, hrc⟩ := hrel
            clear R0 HPG
            have HST := Lib.hid hst
            obtain ⟨A0, k0, c0, rfl⟩ := own_slice hst.own
            obtain rfl := own_len hst.own
            have c14 : wr.cell? ⟨g14, 1, none⟩ = some (.int .u64 (c : Int)) := hst.cnt.cell 1
            by_cases hic : cs.length < c
            · skip
              have hrc2 := hrc.out.trans (congrArg (pgEnd b n) (rdCells_step hic (lr, 0) cs))
              simp only at hrc2
              clear hst hrc
              go_wp2_with fail
              refine (refTake_any lr wr hlr).mono ?_
              rintro e wx ⟨rfl, hbl⟩
              have hk1 := rdText_bd lr (e := 0) (Nat.zero_le _)
              obtain ⟨X1, hX1⟩ : ∃ X, rdText lr 0 = X := ⟨_, rfl⟩
              rw [hX1] at hk1 hrc2 ⊢
              obtain ⟨k, l1, er1⟩ := X1
              unfold takeV fldC
              simp only at hk1 hrc2 ⊢
              have B0 := Lib.hid ((HST.out.res.later hbl).alloc (.cells #[.int .i64 1, .int .u64 0, .string (st k), .bool false, .int .i64 0] 76))
              have B1 := Lib.hid ((HST.out.non.later hbl).alloc (.cells #[.int .i64 1, .int .u64 0, .string (st k), .bool false, .int .i64 0] 76))
              have B7 := Lib.hid ((HST.out.page.later hbl).alloc (.cells #[.int .i64 1, .int .u64 0, .string (st k), .bool false, .int .i64 0] 76))
              have B14 := Lib.hid ((HST.out.cnt.later hbl).alloc (.cells #[.int .i64 1, .int .u64 0, .string (st k), .bool false, .int .i64 0] 76))
              have B18 := Lib.hid (Blk.new wx 76 #[.int .i64 1, .int .u64 0, .string (st k), .bool false, .int .i64 0])
              have hbl2 : Below wr.heap.size wr (wx.alloc (.cells #[.int .i64 1, .int .u64 0, .string (st k), .bool false, .int .i64 0] 76)) := hbl.alloc hbl.size _
              have HCO := Lib.hid (HST.out.own.later hbl2)
              have q := HST.out.below.trans (hbl2.mono HST.out.below.size)
              clear hbl hX1 hbl2 c14
              go_wp2_with fail
              generalize hW : wx.alloc (.cells #[.int .i64 1, .int .u64 0, .string (st k), .bool false, .int .i64 0] 76) = Wx at *
              clear hW
              obtain ⟨g18, hg18⟩ : ∃ g, wx.heap.size = g := ⟨_, rfl⟩
              rw [hg18] at B18 ⊢
              clear hg18
              refine (refTake_any l1 Wx (by omega)).mono ?_
              rintro e wy ⟨rfl, hbl⟩
              have hk2 := rdText_bd l1 (e := 0) (Nat.zero_le _)
              have HX2 : Hid (rdText l1 0 = rdText l1 0) := rfl
              obtain ⟨X2, hX2⟩ : ∃ X, rdText l1 0 = X := ⟨_, rfl⟩
              rw [hX2] at hk2 ⊢
              have HX2 := Lib.hid hX2
              obtain ⟨v, l2, er2⟩ := X2
              unfold takeV fldC
              simp only at hk2 ⊢
              have B0 := Lib.hid (B0.out.later hbl)
              have B1 := Lib.hid (B1.out.later hbl)
              have B7 := Lib.hid (B7.out.later hbl)
              have B14 := Lib.hid (B14.out.later hbl)
              have B18 := Lib.hid (B18.out.later hbl)
              have HCO := Lib.hid (HCO.out.later hbl)
              have q := q.trans (hbl.mono q.size)
              have n0 := B0.out.lt
              have n1 := B1.out.lt
              have n7 := B7.out.lt
              have n14 := B14.out.lt
              have n18 := B18.out.lt
              clear hbl hX2
              by_cases h1 : er1 = 0
              · subst h1
                rw [HX2.out] at hrc2
                simp only at hrc2
                by_cases h2 : er2 = 0
                · subst h2
                  have hml : cs.length + 1 ≤ 2048 := by omega
                  have HRC := Lib.hid hrc2
                  have p72 : wy.cell? ⟨g7, 2, none⟩ = some (.slice A0 cs.length c0) := B7.out.cell 2
                  have p18 : wy.cell? ⟨g18, 2, none⟩ = some (.string (st k)) := B18.out.cell 2
                  have qa : Below wy.heap.size wy ((wy.alloc (.cells #[.int .i64 1, .int .u64 0, .string (st v), .bool false, .int .i64 0] 76)).alloc (.cells #[.string (st k), .string (st v)] 47)) := ((Below.refl _ _).alloc (Nat.le_refl _) _).alloc (by simp) _
                  have hoc := Lib.hid (HCO.out.later qa)
                  have B0 := Lib.hid (B0.out.later qa)
                  have B1 := Lib.hid (B1.out.later qa)
                  have B7 := Lib.hid (B7.out.later qa)
                  have B14 := Lib.hid (B14.out.later qa)
                  have q := q.trans (qa.mono q.size)
                  have hsz : w.heap.size + 1 ≤ ((wy.alloc (.cells #[.int .i64 1, .int .u64 0, .string (st v), .bool false, .int .i64 0] 76)).alloc (.cells #[.string (st k), .string (st v)] 47)).heap.size := by simp; omega
                  have hwi : IntKind.u64.wrap ((cs.length : Int) + 1) = (cs.length : Int) + 1 := wrap_u64 (by omega) (by unfold U64; omega)
                  clear hrc2 qa
                  go_wp2_with (at_builtin; refine wpList_append_sl _ rfl (.tmp 96) (.tmp 102) elemCel rfl hoc.out (Sl.newcel (S := fun _ => True) _ (k, v) (by simp) trivial) rfl rfl (ccs_one _) (by simp only [maxLen]; omega) (by omega) hsz ?_; intro A3 k3 c3 w3 hown3 hg3 hat3; have b73 := B7.out.kept hoc.out hg3 (by decide); have p7c : w3.cell? ⟨g7, 2, none⟩ = some (.slice A0 cs.length c0) := b73.cell 2; have p7f := b73.free 2)
                  go_roundw
                  case rel =>
                    obtain rfl : k3 = cs.length + 1 := own_len hown3
                    have hown4 : Co w3 (w.heap.size + 1) (.slice A3 (cs.length + 1) c3) (cs ++ [(k, v)]) := by
                      unfold Co
                      rw [ccs_append, show (cs ++ [(k, v)]).length = cs.length + 1 by simp]
                      exact hown3
                    have hq3 : Below w.heap.size w w3 := below_grown_own q (own_lower' hoc.out (Nat.le_succ _)) hg3 q.size
                    have b143 := B14.out.kept hoc.out hg3 (by decide)
                    have b03 := B0.out.kept hoc.out hg3 (by decide)
                    have b13 := B1.out.kept hoc.out hg3 (by decide)
                    refine ⟨_, _, _, ⟨_, cs ++ [(k, v)], l2, rfl, rfl, by rw [List.length_append]; simp; omega, by omega, ⟨b73.put 2 _, own_set hown4 b73 (by decide) 2 _, b143.far (Blk.ne b143 b73 (by decide)) _, b03.far ne0 _, b13.far ne1 _, hq3.setCell (show w.heap.size ≤ g7 by omega) _, fun x hx => ?_⟩, by rw [List.length_append]; exact HRC.out⟩, rfl, rfl, by rw [List.length_append]; go_num⟩
                    rcases List.mem_append.1 hx with h | h
                    · exact HST.out.few x h
                    · simp at h
                      subst h
                      exact ⟨hk1.1, hk2.1⟩
                  case measure => simp [intOf]; omega
                · have HN : Hid (pgOfB l = none) := hrc2.trans (pgEnd_err (by rw [rdCells_err _ _ _ h2]; exact h2))
                  have t1 : ((er2 : Int) != 0) = true := by rw [bne_iff_ne]; omega
                  have f00 := B0.out.free 0
                  have f01 := B0.out.free 1
                  have f02 := B0.out.free 2
                  have c00 : (wy).cell? ⟨w.heap.size, 0, none⟩ = some (.bool false) := B0.out.cell 0
                  have c01 : (wy).cell? ⟨w.heap.size, 1, none⟩ = some (.int .i64 0) := B0.out.cell 1
                  have c02 : (wy).cell? ⟨w.heap.size, 2, none⟩ = some (.slice none 0 0) := B0.out.cell 2
                  have c10 : (wy).cell? ⟨w.heap.size + 1, 0, none⟩ = some (.bool false) := B1.out.cell 0
                  have c11 : (wy).cell? ⟨w.heap.size + 1, 1, none⟩ = some (.int .i64 0) := B1.out.cell 1
                  have c12 : (wy).cell? ⟨w.heap.size + 1, 2, none⟩ = some (.slice none 0 0) := B1.out.cell 2
                  clear hrc2 h2
                  go_wp2_with fail
                  exact bodyPost_ret (results_cell2 rfl _ _ w.heap.size rfl ((B0.out.put3 _ _ _).alloc _) pageTy) rfl (PgOfPost.no HN rfl ((below_put3 q (Nat.le_refl _) _ _ _).alloc (by simpa using q.size) _))
              · have HN : Hid (pgOfB l = none) := by
                  refine hrc2.trans (pgEnd_err ?_)
                  rw [rdText_err h1, rdCells_err _ _ _ h1]
                  exact h1
                have t1 : ((er1 : Int) != 0) = true := by rw [bne_iff_ne]; omega
                have f00 := B0.out.free 0
                have f01 := B0.out.free 1
                have f02 := B0.out.free 2
                have c00 : (wy).cell? ⟨w.heap.size, 0, none⟩ = some (.bool false) := B0.out.cell 0
                have c01 : (wy).cell? ⟨w.heap.size, 1, none⟩ = some (.int .i64 0) := B0.out.cell 1
                have c02 : (wy).cell? ⟨w.heap.size, 2, none⟩ = some (.slice none 0 0) := B0.out.cell 2
                have c10 : (wy).cell? ⟨w.heap.size + 1, 0, none⟩ = some (.bool false) := B1.out.cell 0
                have c11 : (wy).cell? ⟨w.heap.size + 1, 1, none⟩ = some (.int .i64 0) := B1.out.cell 1
                have c12 : (wy).cell? ⟨w.heap.size + 1, 2, none⟩ = some (.slice none 0 0) := B1.out.cell 2
                clear hrc2 h1
                go_wp2_with fail
                exact bodyPost_ret (results_cell2 rfl _ _ w.heap.size rfl ((B0.out.put3 _ _ _).alloc _) pageTy) rfl (PgOfPost.no HN rfl ((below_put3 q (Nat.le_refl _) _ _ _).alloc (by simpa using q.size) _))
            · have hce : c = cs.length := by omega
              have HEND : Hid (pgOfB l = pgEnd b n (cs, (lr, 0))) := by
                have h := hrc.out
                rw [hce, Nat.sub_self, rdCells] at h
                exact h
              have hml : cs.length ≤ 2048 := by omega
              have f00 := hst.res.free 0
              have f01 := hst.res.free 1
              have f02 := hst.res.free 2
              have q := hst.below
              have c00 : (wr).cell? ⟨w.heap.size, 0, none⟩ = some (.bool false) := hst.res.cell 0
              have c01 : (wr).cell? ⟨w.heap.size, 1, none⟩ = some (.int .i64 0) := hst.res.cell 1
              have c02 : (wr).cell? ⟨w.heap.size, 2, none⟩ = some (.slice none 0 0) := hst.res.cell 2
              have c10 : (wr).cell? ⟨w.heap.size + 1, 0, none⟩ = some (.bool false) := hst.non.cell 0
              have c11 : (wr).cell? ⟨w.heap.size + 1, 1, none⟩ = some (.int .i64 0) := hst.non.cell 1
              have c12 : (wr).cell? ⟨w.heap.size + 1, 2, none⟩ = some (.slice none 0 0) := hst.non.cell 2
              have c70 : (wr).cell? ⟨g7, 0, none⟩ = some (.bool b) := hst.page.cell 0
              have c71 : (wr).cell? ⟨g7, 1, none⟩ = some (.int .i64 (n : Int)) := hst.page.cell 1
              have c72 : (wr).cell? ⟨g7, 2, none⟩ = some (.slice A0 cs.length c0) := hst.page.cell 2
              clear hst hrc hce
              rcases lr with _ | ⟨b5, r5⟩
              · have hem : ([] : List UInt8).isEmpty = true := rfl
                go_wp2_with fail
                refine (refPCheck_any _ b (n : Int) _ cs wr (by omega) ⟨by omega, HST.out.few⟩ HST.out.own.cs).mono ?_
                rintro e w8 ⟨rfl, hbl⟩
                have q := q.trans (hbl.mono q.size)
                have c00 := cell_later hbl c00
                have c01 := cell_later hbl c01
                have c02 := cell_later hbl c02
                have c10 := cell_later hbl c10
                have c11 := cell_later hbl c11
                have c12 := cell_later hbl c12
                have c70 := cell_later hbl c70
                have c71 := cell_later hbl c71
                have c72 := cell_later hbl c72
                have hb8 := HST.out.res.later hbl
                have f00 := hb8.free 0
                have f01 := hb8.free 1
                have f02 := hb8.free 2
                by_cases hC : pgChk (n : Int) cs = 0
                · rw [hC]
                  have HY : Hid (pgOfB l = some (b, n, cs)) := by
                    rw [Hid, HEND.out]
                    unfold pgEnd
                    exact if_pos ⟨rfl, hC⟩
                  clear hC
                  go_wp2_with fail
                  exact bodyPost_ret (results_cell2 rfl _ _ w.heap.size rfl (hb8.put3 _ _ _) pageTy) rfl (PgOfPost.yes HY rfl (Cs.put3 (L := w.heap.size + 1) (Sl.below HST.out.own.cs hbl (fun _ h => h.2)) (fun x h => ⟨h.1, Nat.lt_of_lt_of_le h.2 hbl.size⟩) (Nat.lt_succ_self _) (Nat.le_succ _) _ _ _) (below_put3 q (Nat.le_refl _) _ _ _))
                · have HN : Hid (pgOfB l = none) := by
                    rw [Hid, HEND.out]
                    unfold pgEnd
                    exact if_neg (fun h => hC h.2)
                  have t1 : ((pgChk (n : Int) cs : Int) != 0) = true := by rw [bne_iff_ne]; omega
                  generalize pgChk (n : Int) cs = P at *
                  clear hC
                  go_wp2_with fail
                  exact bodyPost_ret (results_cell2 rfl _ _ w.heap.size rfl (hb8.put3 _ _ _) pageTy) rfl (PgOfPost.no HN rfl (below_put3 q (Nat.le_refl _) _ _ _))
              · have hem : (b5 :: r5).isEmpty = false := rfl
                have HN : Hid (pgOfB l = none) := by
                  rw [Hid, HEND.out]
                  unfold pgEnd
                  exact if_neg (fun h => by have := h.1; simp [rdEnd] at this)
                go_wp2_with fail
                exact bodyPost_ret (results_cell2 rfl _ _ w.heap.size rfl (HST.out.res.put3 _ _ _) pageTy) rfl (PgOfPost.no HN rfl (below_put3 q (Nat.le_refl _) _ _ _))
        · have HN : Hid (pgOfB l = none) := by
            subst h1 h2
            exact (HO1.out.trans (pgIn_cells HX1.out HX2.out HX3.out)).trans (pgEnd_err (by rw [rdCells_err _ _ _ h3]; exact h3))
          have t1 : ((e3 : Int) != 0) = true := by rw [bne_iff_ne]; omega
          subst h1 h2
          clear h3
          go_wp2_with fail
          exact bodyPost_ret (results_cell2 rfl _ _ w.heap.size rfl ((B0.out.put3 _ _ _).alloc _) pageTy) rfl (PgOfPost.no HN rfl ((below_put3 q (Nat.le_refl _) _ _ _).alloc (by simpa using q.size) _))
      · have HN : Hid (pgOfB l = none) := by
          subst h1
          exact HO1.out.trans (pgIn_next HX1.out HX2.out h2)
        have t1 : ((e2 : Int) != 0) = true := by rw [bne_iff_ne]; omega
        subst h1
        clear h2
        go_wp2_with fail
        exact bodyPost_ret (results_cell2 rfl _ _ w.heap.size rfl ((B0.out.put3 _ _ _).alloc _) pageTy) rfl (PgOfPost.no HN rfl ((below_put3 q (Nat.le_refl _) _ _ _).alloc (by simpa using q.size) _))
    · have HN : Hid (pgOfB l = none) := HO1.out.trans (pgIn_flag HX1.out h1)
      have t1 : ((e1 : Int) != 0) = true := by rw [bne_iff_ne]; omega
      clear h1
      go_wp2_with fail
      exact bodyPost_ret (results_cell2 rfl _ _ w.heap.size rfl ((B0.out.put3 _ _ _).alloc _) pageTy) rfl (PgOfPost.no HN rfl ((below_put3 q (Nat.le_refl _) _ _ _).alloc (by simpa using q.size) _))
end Go.Proofs.YtlidbgidbpaenaaDoor
