/- append of a string onto bytes of the call's own. No program is named here. -/
import Derived.Test.YtpmndmgfoiagnaaDoorStr
import Derived.Lib.AppendStr
namespace Go.Proofs.YtpmndmgfoiagnaaDoor
open Go Go.RowKit
set_option linter.unusedVariables false

theorem strCells_st (l : List UInt8) : Lib.strCells (st l) = bv l := by
  simp [Lib.strCells, bv, st]

theorem wpList_append_st {P : Program} (w : World) {ops : Array Oper} {rest : List Oper} {o : Oper} {a : Act} {Q : Exit → Act → World → Prop} (hgd : o.guard = none) (s x : Operand) {t u e : TypeId}
    (E : Elem P t e (.int .u8 0) 1 1) (hu : P.underlying u = some .string) (ho : o.op = .call { callee := .builtin .append, args := #[s, x], argTypes := #[t, u] })
    {base : Nat} {v : Value} {l : List UInt8} (hown : Ob e w base v l) {m : List UInt8} (hs : a.eval s = v) (hx : a.eval x = .string (st m))
    (hlen : l.length + m.length ≤ 140737488355328) (hbase : base ≤ w.heap.size)
    (h : ∀ A k c w', Ob e w' base (.slice A k c) (l ++ m) → w.grownBy w' v.ownBlock → wpList P ops Q rest (a.put o.dst (.slice A k c)) w') :
    wpList P ops Q (o :: rest) a w := by
  obtain ⟨i, hi, hz, hsz, hby⟩ := E.info
  refine Lib.wpList_append_own_string w hgd s x t u ho base e i E.under hu hi hz hsz hby v l.length (bv l) hs hown (st m) hx (by rw [st_size]; simp only [maxLen]; omega) (by rw [st_size]; exact hlen) hbase fun v' w' h2 h3 _ => ?_
  obtain ⟨A, k, c, rfl⟩ := own_slice h2
  refine h A k c w' ?_ h3
  rw [st_size, strCells_st] at h2
  unfold Ob
  rw [bv_append, List.length_append]
  exact h2

end Go.Proofs.YtpmndmgfoiagnaaDoor
