/- keys.Put, First, Next: what they return. -/
import Derived.Test.YtdmighkfmbcbmaaDoorNumA
import Derived.Test.YtdmighkfmbcbmaaDoorStrB
import Derived.Test.YtdmighkfmbcbmaaDoorKeyP
import Derived.Laws.Bits64
import Derived.Test.YtdmighkfmbcbmaaDoorTy
namespace Go.Proofs.YtdmighkfmbcbmaaDoor
open Go Go.RowKit
set_option linter.unusedVariables false

theorem st_emptyK : (⟨#[]⟩ : ByteArray) = st [] := rfl

theorem u64_not (t : Nat) (h : t < U64) : bits .xor .u64 IntKind.u64.max (t : Int) = ((18446744073709551615 - t : Nat) : Int) := by
  unfold U64 at h
  have e : IntKind.u64.max = ((18446744073709551615 : Nat) : Int) := rfl
  rw [e, bits_xor_u64_nat _ _ (by omega) h]
  congr 1
  have h2 : (18446744073709551615 : Nat) = (BitVec.allOnes 64).toNat := rfl
  have h3 : t = (BitVec.ofNat 64 t).toNat := by rw [BitVec.toNat_ofNat]; omega
  rw [h3, h2, ← BitVec.toNat_xor]
  have h4 : BitVec.allOnes 64 ^^^ BitVec.ofNat 64 t = ~~~(BitVec.ofNat 64 t) := BitVec.allOnes_xor
  rw [h4, BitVec.toNat_not]
  rfl

/-- 'make([]byte, 0, n)'. -/
theorem wpList_make_bs {P : Program} (w : World) {ops : Array Oper} {rest : List Oper} {o : Oper} {a : Act} {Q : Exit → Act → World → Prop} (hg : o.guard = none) (l c : Operand) {t e : TypeId}
    (E : Elem P t e (.int .u8 0) 1 1) (hop : o.op = Op.makeSlice t l c) (base : Nat) {kl kc : IntKind} {C : Int} (n : Nat) (hl : a.eval l = .int kl 0) (hc : a.eval c = .int kc C) (hC : C = (n : Int)) (b : n ≤ 140737488355328) (hB : base ≤ w.heap.size)
    (hK : ∀ w', Ob e w' base (.slice (some ⟨w.heap.size, 0, none⟩) 0 n) [] → Below base w w' → wpList P ops Q rest (a.put o.dst (.slice (some ⟨w.heap.size, 0, none⟩) 0 n)) w') : wpList P ops Q (o :: rest) a w := by
  obtain ⟨i, hi, hz, hsz, hby⟩ := E.info
  refine wpList_make_own w hg l c t hop base e i (.int .u8 0) 1 E.under hi hz hsz kl kc C n hl hc hC (by rw [hby]; omega) (by simp only [maxLen]; omega) hB fun w' h1 h2 => ?_
  exact hK w' h1 ((Below.refl _ _).grown h2 hB (fun k hk => by cases hk))

set_option maxHeartbeats 400000 in
/-- The closure in keys.Put: a string more behind what was put. -/
theorem kput1_any (B bo : Nat) (A : Option Addr) (k c : Nat) (l m : List UInt8) (w : World) (ho : Blk w bo 27 #[.slice A k c]) (hown : Ob 5 w B (.slice A k c) l) (hB : B ≤ w.heap.size) (hl : l.length + m.length ≤ 140737488355328) (hBo : B ≤ bo) :
    Calls Tryd.prog 24 #[.string (st m), .pointer (some ⟨bo, 0, none⟩)] w fun e w' => e = .returned (.tuple #[]) ∧ ∃ A' k' c', Blk w' bo 27 #[.slice A' k' c'] ∧ Ob 5 w' B (.slice A' k' c') (l ++ m) ∧ Below B w w' := by
  have c0 := ho.cell 0
  simp at c0
  go_enter Tryd.func24, Tryd.ntmps24
  go_wp2_with (at_builtin; go_loud (refine wpList_append_st _ rfl (.tmp 3) (.tmp 4) elemU8 tS rfl hown rfl rfl hl hB ?_); intro A2 k2 c2 w2 hown2 hg2; have ho2 := ho.kept hown hg2 (by decide); have d0 := ho2.cell 0; simp at d0; have d1 := ho2.free 0)
  go_end0
  exact ⟨rfl, A2, k2, c2, ho2.put1 _, own_set hown2 ho2 (by decide) 0 _, (below_grown_own (Below.refl _ _) hown hg2 hB).setCell hBo _⟩

theorem keyB_take0 {l : List UInt8} {i : Nat} (h : i < l.length) (h0 : l[i].toNat = 0) : keyB (l.take (i + 1)) = keyB (l.take i) ++ [0, 255] := by
  have h0' : l[i] = 0 := UInt8.toNat_inj.1 h0
  rw [List.take_succ_eq_append_getElem h, h0', keyB_snoc0]
theorem keyB_take1 {l : List UInt8} {i : Nat} (h : i < l.length) (h0 : ¬ l[i].toNat = 0) : keyB (l.take (i + 1)) = keyB (l.take i) ++ [l[i]] := by
  rw [List.take_succ_eq_append_getElem h, keyB_snoc _ (fun he => h0 (by rw [he]; rfl))]
theorem drop_one {l : List UInt8} {i : Nat} (h : i < l.length) : (l.drop i).take 1 = [l[i]] := by
  rw [List.drop_eq_getElem_cons h]; rfl

set_option maxHeartbeats 400000 in
theorem kput_long (l : List UInt8) (t : Nat) (w : World) (hl : 64 < l.length) (hm : l.length ≤ 9223372036854775807) :
    Calls Tryd.prog 14 #[.string (st l), .int .u64 t] w fun e w' => e = .returned (.tuple #[.slice none 0 0, .int .i64 41]) ∧ w = w' := by
  have t1 : (64 : Int) < (l.length : Int) := by omega
  go_enter Tryd.func14, Tryd.ntmps14
  go_wp2
  go_ret2
  exact ⟨rfl, rfl⟩

set_option maxHeartbeats 1000000 in
set_option maxRecDepth 100000 in
theorem kput_ok (l : List UInt8) (t : Nat) (w : World) (hb : BitsOk w) (ht : t < U64) (hl : l.length ≤ 64) :
    Calls Tryd.prog 14 #[.string (st l), .int .u64 t] w fun e w' => ∃ A k c, e = .returned (.tuple #[.slice A k c, .int .i64 0]) ∧ Ob 5 w' w.heap.size (.slice A k c) (keyPut l t) ∧ Below w.heap.size w w' := by
  have HB := Lib.hid hb
  clear hb
  have hmf := run_makeFunc Tryd.prog
  have l1 : (⟨#[0, 255]⟩ : ByteArray) = st [0, 255] := rfl
  have l2 : (⟨#[0, 1]⟩ : ByteArray) = st [0, 1] := rfl
  have t1 : ¬ (64 : Int) < (l.length : Int) := by omega
  have HT := Lib.hid (u64_not t ht)
  have hkl : (keyB l).length ≤ 128 := by have := keyB_len l; omega
  go_enter Tryd.func14, Tryd.ntmps14
  go_wp2_with (refine wpList_make_bs _ rfl (.const (.int .i64 0)) (.tmp 14) elemU8 rfl w.heap.size (l.length + 10) rfl rfl (by omega) (by omega) (Nat.le_refl _) ?_; intro w1 hown1 hbl1)
  have hs1 := hbl1.size
  have R0 : Blk (w1.alloc (.cells #[.slice (some ⟨w.heap.size, 0, none⟩) 0 (l.length + 10)] 27)) w1.heap.size 27 #[.slice (some ⟨w.heap.size, 0, none⟩) 0 (l.length + 10)] ∧
      Ob 5 (w1.alloc (.cells #[.slice (some ⟨w.heap.size, 0, none⟩) 0 (l.length + 10)] 27)) w.heap.size (.slice (some ⟨w.heap.size, 0, none⟩) 0 (l.length + 10)) (keyB (l.take 0)) ∧ Below w.heap.size w (w1.alloc (.cells #[.slice (some ⟨w.heap.size, 0, none⟩) 0 (l.length + 10)] 27)) :=
    ⟨Blk.new _ _ _, hown1.alloc _, hbl1.alloc hs1 _⟩
  clear hown1 hbl1
  go_loopw [19] (fun iv wr => ∃ (i : Nat) (A : Option Addr) (k c : Nat), iv = .int .i64 (i : Int) ∧ i ≤ l.length ∧ Blk wr w1.heap.size 27 #[.slice A k c] ∧ Ob 5 wr w.heap.size (.slice A k c) (keyB (l.take i)) ∧ Below w.heap.size w wr) (fun iv _ => l.length - (intOf iv).toNat)
  case atStart => exact ⟨0, _, _, _, rfl, by omega, R0⟩
  case round =>
    obtain ⟨i, A, k, c, rfl, hi, hbo, hown, hbl⟩ := hrel
    clear R0
    have hsz := hbl.size
    by_cases hil : i < l.length
    · have hki : (keyB (l.take i)).length ≤ 128 := by have h1 := keyB_len (l.take i); have h2 : (l.take i).length ≤ i := List.length_take_le _ _; omega
      by_cases h0 : l[i].toNat = 0
      · have HK := Lib.hid (keyB_take0 hil h0)
        have z0 : ((l[i].toNat : Int) == 0) = true := by simp [h0]
        clear h0
        go_wp2_with fail
        refine (kput1_any w.heap.size w1.heap.size A k c _ [0, 255] wr hbo hown hsz (by simp; omega) hs1).mono ?_
        rintro e w3 ⟨rfl, A3, k3, c3, hbo3, hown3, hbl3⟩
        go_wp2
        go_roundw
        case rel => exact ⟨i + 1, A3, k3, c3, by go_num, by omega, hbo3, by rw [HK.out]; exact hown3, hbl.trans hbl3⟩
        case measure => simp [intOf]; omega
      · have HK := Lib.hid (keyB_take1 hil h0)
        have z0 : ((l[i].toNat : Int) == 0) = false := by rw [beq_eq_false_iff_ne]; omega
        have hd := drop_one hil
        clear h0
        go_wp2_with fail
        refine (kput1_any w.heap.size w1.heap.size A k c _ [l[i]] wr hbo hown hsz (by simp; omega) hs1).mono ?_
        rintro e w3 ⟨rfl, A3, k3, c3, hbo3, hown3, hbl3⟩
        go_wp2
        go_roundw
        case rel => exact ⟨i + 1, A3, k3, c3, by go_num, by omega, hbo3, by rw [HK.out]; exact hown3, hbl.trans hbl3⟩
        case measure => simp [intOf]; omega
    · obtain rfl : i = l.length := by omega
      rw [List.take_length] at hown
      go_wp2_with fail
      refine (kput1_any w.heap.size w1.heap.size A k c _ [0, 1] wr hbo hown hsz (by simp; omega) hs1).mono ?_
      rintro e w3 ⟨rfl, A3, k3, c3, hbo3, hown3, hbl3⟩
      have q3 := hbl.trans hbl3
      have hs3 := q3.size
      have c0 := hbo3.cell 0
      simp at c0
      clear hown hbo hbl hbl3
      go_wp2_with fail
      rw [HT.out]
      refine (put_ok _ _ (keyB l ++ [0, 1]) (18446744073709551615 - t) 8 w3 (by omega) (by omega) (by unfold U64; omega) (fun h => absurd h (by omega)) (HB.out.later q3) (by simp; omega) hown3.bs).mono ?_
      rintro e w4 ⟨A4, k4, c4, rfl, hown4, hbl4⟩
      have hbo4 := hbo3.later hbl4
      have d0 := hbo4.cell 0
      have d1 := hbo4.free 0
      simp at d0
      have q4 := q3.trans (hbl4.mono hs3)
      have HO4 : Hid (Ob 5 w4 w.heap.size (.slice A4 k4 c4) (keyPut l t)) := hown4.lower hs3
      clear hown4 hbl4 hown3
      go_wp2_with fail
      go_ret2
      exact ⟨A4, k4, c4, rfl, own_set HO4.out hbo4 (by decide) 0 _, q4.setCell hs1 _⟩

set_option maxHeartbeats 400000 in
set_option maxRecDepth 100000 in
theorem kfirst_long (l : List UInt8) (w : World) (hl : 64 < l.length) (hm : l.length ≤ 9223372036854775807) :
    Calls Tryd.prog 17 #[.string (st l)] w fun e w' => e = .returned (.tuple #[.slice none 0 0, .int .i64 41]) ∧ w = w' := by
  go_enter Tryd.func17, Tryd.ntmps17
  go_wp2_with fail
  refine (kput_long l 18446744073709551615 w hl hm).mono ?_
  rintro e w1 ⟨rfl, rfl⟩
  go_wp2_with fail
  go_ret2
  exact ⟨rfl, rfl⟩
/-- The bytes ahead of which no version of a key stands. -/
def firstB (l : List UInt8) : List UInt8 := keyPut l 18446744073709551615
set_option maxHeartbeats 400000 in
set_option maxRecDepth 100000 in
theorem kfirst_ok (l : List UInt8) (w : World) (hb : BitsOk w) (hl : l.length ≤ 64) :
    Calls Tryd.prog 17 #[.string (st l)] w fun e w' => ∃ A k c, e = .returned (.tuple #[.slice A k c, .int .i64 0]) ∧ Ob 5 w' w.heap.size (.slice A k c) (firstB l) ∧ Below w.heap.size w w' := by
  have HB := Lib.hid hb
  clear hb
  go_enter Tryd.func17, Tryd.ntmps17
  go_wp2_with fail
  refine (kput_ok l 18446744073709551615 w HB.out (by unfold U64; omega) hl).mono ?_
  rintro e w1 ⟨A, k, c, rfl, hown, hbl⟩
  go_wp2_with fail
  go_ret2
  exact ⟨A, k, c, rfl, hown, hbl⟩
set_option maxHeartbeats 400000 in
theorem knext_any (l : List UInt8) (w : World) (hl : l.length ≤ 9223372036854775806) :
    Calls Tryd.prog 15 #[.string (st l)] w fun e w' => e = .returned (.string (st (l ++ [0]))) ∧ w = w' := by
  have l1 : (⟨#[0]⟩ : ByteArray) = st [0] := rfl
  go_enter Tryd.func15, Tryd.ntmps15
  go_wp2_with fail
  go_ret
  exact ⟨rfl, rfl⟩
end Go.Proofs.YtdmighkfmbcbmaaDoor
