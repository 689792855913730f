/- Strings as lists of bytes; the conversions between strings and slices of bytes. No program is named here. -/
import Derived.Test.YtpmndmgfoiagnaaDoorBase
import Derived.Lib.SlBytesConst
namespace Go.Proofs.YtpmndmgfoiagnaaDoor
open Go Go.RowKit
set_option linter.unusedVariables false

/-- One call behind another. -/
theorem below_chain {a b c : World} (h : Below a.heap.size a b) (k : Below b.heap.size b c) : Below a.heap.size a c := h.trans (k.mono h.size)
theorem below_drew0 (a : World) : Below a.heap.size a a.drew := ⟨rfl, rfl, rfl, Nat.le_refl _, fun _ _ => rfl⟩

/-- The string of some bytes. -/
def st (l : List UInt8) : ByteArray := ⟨l.toArray⟩
theorem st_data (l : List UInt8) : (st l).data.toList = l := rfl
theorem st_of (s : ByteArray) : st s.data.toList = s := by cases s; rfl
theorem st_inj {l m : List UInt8} (h : st l = st m) : l = m := by rw [← st_data l, h, st_data]
@[go_sem] theorem st_size (l : List UInt8) : (st l).size = l.length := by simp [st, ByteArray.size]
@[go_sem] theorem st_toList (l : List UInt8) : (st l).toList = l := ByteArray.toList_mk l
@[go_sem] theorem st_append (l m : List UInt8) : st l ++ st m = st (l ++ m) := by simp [st, ByteArray.mk_append_mk]
@[go_sem] theorem st_extract (l : List UInt8) (a b : Nat) : (st l).extract a b = st ((l.drop a).take (b - a)) := by
  apply ByteArray.ext
  rw [ByteArray.data_extract]
  simp [st]
@[go_sem] theorem st_getElem (l : List UInt8) (i : Nat) (h : i < (st l).size) : (st l)[i]'h = l[i]'(by rwa [st_size] at h) := by
  simp [st, ByteArray.getElem_eq_getElem_data]

theorem wrap_u64 {n : Int} (h0 : 0 ≤ n) (h : n < (U64 : Int)) : IntKind.u64.wrap n = n := by
  unfold U64 at h
  simp only [IntKind.wrap, IntKind.bits, IntKind.signed]
  simp
  omega

theorem Bs.nilv (S : Nat → Prop) (w : World) : Bs S w (.slice none 0 0) [] := Sl.nil
/-- A block of some bytes that the text itself names, marked or not. -/
theorem Bs.lit (w : World) (e : TypeId) (l : List UInt8) (hl : l.length ≤ maxLen) (k : Nat × Nat) {g : Nat} (hg : g = w.heap.size) : Bs (fun b => b = w.heap.size) (w.alloc (.cells (bv l).toArray e k)) (.slice (some ⟨g, 0, none⟩) l.length l.length) l := by
  subst hg
  refine Bs.mk_ (Nat.le_refl _) hl (fun h => by cases h) fun _ => ⟨_, 0, rfl, rfl, fun j hj => ?_⟩
  obtain ⟨lo, hi⟩ := k
  rw [Nat.zero_add, World.cell?_alloc_mark, List.getElem?_toArray]
  exact bv_at hj

section
variable {P : Program} {ops : Array Oper} {Q : Exit → Act → World → Prop} {a : Act} {rest : List Oper} {o : Oper}

/-- An operation that is run: unguarded, or its guard says yes. -/
theorem wpList_wanted {w : World} (hw : Region.wanted o (yielded ops a.tmps) = true)
    (h : ∀ K : Act → World → Prop, (∀ a w, wpList P ops Q rest a w → K a w) → o.wp P a w K Q) : wpList P ops Q (o :: rest) a w :=
  wpList_step fun K hK => by rw [if_pos hw]; exact h K hK

theorem run_string_of_bs {S : Nat → Prop} {w : World} {v : Value} {l : List UInt8} (hb : Bs S w v l) {src dst e : TypeId} (hs : P.underlying src = some (.slice e)) (he : P.underlying e = some (.int .u8)) (hd : P.underlying dst = some .string) :
    (convert src dst v).run P w = .ok (.string (st l)) w := by
  obtain ⟨A, c, rfl, h3, h4, h5, h6⟩ := hb.at
  rcases Nat.eq_zero_or_pos l.length with h0 | h0
  · obtain rfl : l = [] := List.eq_nil_of_length_eq_zero h0
    rcases A with _ | ad
    · exact run_convert_bytes_nil w src e hs he _ _ dst hd
    · exact run_convert_bytes_back w src dst e ad c [] hs he hd (fun j hj => by simp at hj)
  · obtain ⟨b, o', rfl, _, hc⟩ := h6 h0
    exact run_convert_bytes_back w src dst e ⟨b, o', none⟩ c l hs he hd (fun j hj => by rw [addr_add_none]; exact hc j hj)

/-- 'string([]byte{x})'. -/
theorem conv1 {src dst e : TypeId} (hs : P.underlying src = some (.slice e)) (he : P.underlying e = some (.int .u8)) (hd : P.underlying dst = some .string) (w : World) (n : Int) (b : UInt8) (h0 : 0 ≤ n) (h1 : n ≤ 255) (hb : b.toNat = n.toNat) :
    (convert src dst (.slice (some ⟨w.heap.size, 0, none⟩) 1 1)).run P (w.alloc (.cells #[.int .u8 n] e)) = .ok (.string (st [b])) (w.alloc (.cells #[.int .u8 n] e)) := by
  have h := run_string_of_bs (P := P) (Bs.one w e n h0 h1 rfl) hs he hd
  have hb' : b = UInt8.ofNat n.toNat := by
    apply UInt8.toNat_inj.1
    simp
    omega
  rw [hb']
  exact h

/-- '[]byte("ab")': the literal's row is marked. -/
theorem run_bytes_const {t e : TypeId} (ht : P.underlying t = some (.slice e)) (he : P.underlying e = some (.int .u8)) (w : World) (g : Nat) (C : Array Value) (n c : Nat) (hg : g = w.heap.size) :
    (convert t t (.slice (some ⟨g, 0, none⟩) n c)).run P (w.alloc (.cells C e)) = .ok (.slice (some ⟨g, 0, none⟩) n c) (w.alloc (.cells C e (C.size, C.size + 1))) := by
  subst hg
  exact Lib.run_convert_bytes_const w t e C n c ht he

/-- 'string(b)'. -/
theorem wpList_string_of_bs (w : World) (hw : Region.wanted o (yielded ops a.tmps) = true) (x : Operand) {src dst e : TypeId} (ho : o.op = .convert src dst x)
    (hs : P.underlying src = some (.slice e)) (he : P.underlying e = some (.int .u8)) (hd : P.underlying dst = some .string)
    {S : Nat → Prop} {v : Value} {l : List UInt8} (hb : Bs S w v l) (hx : a.eval x = v) (h : wpList P ops Q rest (a.put o.dst (.string (st l))) w) : wpList P ops Q (o :: rest) a w := by
  refine wpList_wanted hw fun K hK => ?_
  have hrun := run_string_of_bs (P := P) hb hs he hd
  unfold Oper.wp execOp
  simp [ho, hx, hrun, Result.andThen]
  exact hK _ _ h

theorem Bs.of_string (w : World) (s : List UInt8) (e : TypeId) (cap : Nat) (hc : s.length ≤ cap) (hm : cap ≤ maxLen) (k : Nat × Nat) :
    Bs (fun b => b = w.heap.size) (w.alloc (.cells (bytesRow (st s) cap) e k)) (.slice (some ⟨w.heap.size, 0, none⟩) s.length cap) s := by
  refine Bs.mk_ hc hm (fun h => by cases h) fun _ => ⟨_, 0, rfl, rfl, fun j hj => ?_⟩
  rw [Nat.zero_add]
  obtain ⟨lo, hi⟩ := k
  rw [World.cell?_alloc_mark, bytesRow_at (st s) cap j (by simpa [st] using hj)]
  simp [st]

/-- '[]byte(s)': a block of the call's own. -/
theorem wpList_bytes_of_st (w : World) (hw : Region.wanted o (yielded ops a.tmps) = true) (x : Operand) {src dst e : TypeId} (ho : o.op = .convert src dst x)
    (hs : P.underlying src = some .string) (hd : P.underlying dst = some (.slice e)) (he : P.underlying e = some (.int .u8))
    {l : List UInt8} (hl : l.length ≤ maxLen) (hx : a.eval x = .string (st l))
    (h : ∀ A c w', Bs (fun b => b = w.heap.size) w' (.slice A l.length c) l → Below w.heap.size w w' → w'.heap.size = w.heap.size + 1 → wpList P ops Q rest (a.put o.dst (.slice A l.length c)) w') : wpList P ops Q (o :: rest) a w := by
  refine wpList_wanted hw fun K hK => ?_
  have hrun := run_bytes_of_string (P := P) w src dst e (st l) hs hd he
  unfold Oper.wp execOp
  rw [st_size] at hrun
  simp [ho, hx, hrun, Result.andThen]
  refine hK _ _ (h _ _ _ (Bs.of_string w.drew l e _ (grownCap_ge w _ 0 e) (grownCap_le_maxLen w _ 0 e hl) _) ?_ (by simp))
  exact ((Below.refl _ _).drew.alloc (Nat.le_refl _) _)
end

end Go.Proofs.YtpmndmgfoiagnaaDoor
