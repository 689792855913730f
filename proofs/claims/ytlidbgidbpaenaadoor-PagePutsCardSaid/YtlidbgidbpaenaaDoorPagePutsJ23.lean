/- What the proof of PagePuts needs, part 23. -/
import Derived.Test.YtlidbgidbpaenaaDoorPagePutsJ10
import Derived.Laws.CopyRow
import Derived.Lib.AppendZeros
import Derived.Lib.Overlaps
import Derived.Shelf.Spec.SlicesInsert

namespace Go.Proofs.YtlidbgidbpaenaaDoor
open Go Go.RowKit
set_option linter.unusedVariables false

section
variable (P : Program)
theorem run_copy_rowN (w : World) (dT sT ty elem : TypeId) (g o dLen dCap : Nat) (a : Addr) (sLen sCap sz : Nat) (cur : Array Value) (t : TypeId) (cs : List Value)
    (hu : P.underlying dT = some (.slice elem)) (hs : (P.info? elem).map (·.size) = some sz)
    (hg : w.heap[g]? = some (.cells cur t (0, 0))) (hn : cs.length = Nat.min sLen dLen * sz)
    (hsrc : ∀ j v, cs[j]? = some v → w.cell? (a.add j) = some v) (hfit : o + cs.length ≤ cur.size) (h1 : ∀ v ∈ cs, v.oneCell' = true) :
    (Builtin.copy_ #[dT, sT] ty #[.slice (some ⟨g, o, none⟩) dLen dCap, .slice (some a) sLen sCap]).run P w =
      .ok (goInt (Nat.min sLen dLen)) (w.setRow g (cur.toList.take o ++ cs ++ cur.toList.drop (o + cs.length)).toArray) := by
  have hl := run_loadCells_list (P := P) w a cs hsrc
  have hst := run_storeCells_at P g o t cs 0 cur w hg (by simpa using hfit) h1
  cases hq : P.info? elem with
  | none => simp [hq] at hs
  | some i =>
    have hi : i.size = sz := by simpa [hq] using hs
    simp [Builtin.copy_, run_underlying hu, Builtin.lenOf, Builtin.firstCells, sizeOf, typeInfo, hq, hi, ← hn, hl, hst]
/-- append(s, make([]T, n)...) beyond the capacity. -/
theorem run_append_grow_zeros (w : World) (t tn ty e : TypeId) (i : TypeInfo) (z : Value) (k kn : IntKind) (ht : P.underlying t = some (.slice e)) (htn : P.underlying tn = some (.int kn)) (hi : P.info? e = some i) (hz : i.zero = some z)
    (base : Option Addr) (sLen sCap : Nat) (olds : List Value) (hold : (Builtin.firstCells i.size sLen (.slice base sLen sCap)).run P w.drew = .ok olds.toArray w.drew)
    (n : Nat) (h0 : 0 < n) (hs : 0 < i.size) (hg : sCap < sLen + n) (h63 : ((sLen + n : Nat) : Int) ≤ 9223372036854775807) (h48 : n * i.bytes ≤ 281474976710656) (hfit : Builtin.nextslicecap (sLen + n) sCap * i.bytes ≤ 281474976710656) :
    (Builtin.append_ #[t, tn] ty #[.slice base sLen sCap, .int k n]).run P w =
      .ok (.slice (some ⟨w.heap.size, 0, none⟩) (sLen + n) (grownCap w (sLen + n) sCap e))
        (w.drew.alloc (.cells (olds.toArray ++ Builtin.zeroCells z.cells n ++ Builtin.zeroCells z.cells (grownCap w (sLen + n) sCap e - (sLen + n))) e)) := by
  have hw : IntKind.i64.wrap (n : Int) = n := by rw [IntKind.wrap_i64]; omega
  have hn2 : ¬ (sLen + n ≤ sCap) := by omega
  have h63' : ¬ (9223372036854775807 < ((sLen : Int) + (n : Int))) := by omega
  have h48' : ¬ (281474976710656 < Builtin.nextslicecap (sLen + n) sCap * i.bytes) := by omega
  have h48i : ¬ (281474976710656 < (n : Int) * (i.bytes : Int)) := by
    rw [← Int.natCast_mul]
    omega
  have hneg : ¬ ((n : Int) < 0) := by omega
  have hns : ¬ (n * i.size = 0) := Nat.mul_ne_zero (by omega) (by omega)
  simp [Builtin.append_, run_underlying ht, run_underlying htn, sizeOf, typeInfo, zeroValue, hi, hz, asInt, asIntOf, hw, hn2, hneg, hns, h63', h48', h48i, Question.forced, hold, newRow, grownCap]
end
/-- A piece written behind the first o cells, then another one behind it. -/
theorem row_two (R X Y : List Value) (o : Nat) (h : o + X.length + Y.length ≤ R.length) :
    (((R.take o ++ X ++ R.drop (o + X.length)).take (o + X.length) ++ Y ++ (R.take o ++ X ++ R.drop (o + X.length)).drop (o + X.length + Y.length))).take (o + X.length + Y.length) = R.take o ++ X ++ Y := by
  have h1 : (R.take o ++ X ++ R.drop (o + X.length)).take (o + X.length) = R.take o ++ X := by
    rw [List.take_left' (by rw [List.length_append, List.length_take]; omega)]
  rw [h1]
  rw [List.take_left' (by simp only [List.length_append, List.length_take]; omega)]
/-- The piece behind first, then the one ahead of it. -/
theorem row_two' (R X Y : List Value) (o : Nat) (h : o + X.length + Y.length ≤ R.length) :
    (((R.take (o + X.length) ++ Y ++ R.drop (o + X.length + Y.length)).take o ++ X ++ (R.take (o + X.length) ++ Y ++ R.drop (o + X.length + Y.length)).drop (o + X.length))).take (o + X.length + Y.length) = R.take o ++ X ++ Y := by
  have h1 : (R.take (o + X.length) ++ Y ++ R.drop (o + X.length + Y.length)).take o = R.take o := by
    rw [List.append_assoc, List.take_append_of_le_length (by rw [List.length_take]; omega), List.take_take, Nat.min_eq_left (by omega)]
  have h2 : (R.take (o + X.length) ++ Y ++ R.drop (o + X.length + Y.length)).drop (o + X.length) = Y ++ R.drop (o + X.length + Y.length) := by
    rw [List.append_assoc, List.drop_left' (by rw [List.length_take]; omega)]
  rw [h1, h2]
  rw [show R.take o ++ X ++ (Y ++ R.drop (o + X.length + Y.length)) = (R.take o ++ X ++ Y) ++ R.drop (o + X.length + Y.length) by simp only [List.append_assoc], List.take_left' (by simp only [List.length_append, List.length_take]; omega)]
end Go.Proofs.YtlidbgidbpaenaaDoor
