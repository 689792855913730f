/- The disk: New, writing, freeing, and what the closures do. -/
import Derived.Test.YtpmndmgfoiagnaaDoorDskB
import Derived.Test.YtpmndmgfoiagnaaDoorNumA
namespace Go.Proofs.YtpmndmgfoiagnaaDoor
open Go Go.RowKit
set_option linter.unusedVariables false

set_option maxHeartbeats 1000000 in
theorem writing_any (a : Int) (A : Option Addr) (c : Nat) (b : List UInt8) (w : World) (hu : Ub w 0 (.slice A b.length c) b) :
    Calls Tryd.prog 45 #[.int .i64 a, .slice A b.length c] w fun e w' => ∃ v, e = .returned v ∧ PnIs w' v (.wr a b) ∧ Below w.heap.size w w' := by
  have hmf := run_makeFunc Tryd.prog
  have b1 : Blk ((w.alloc (.cells #[.int .i64 a] 3)).alloc (.cells #[.slice A b.length c] 75)) w.heap.size 3 #[.int .i64 a] := (Blk.new _ _ _).alloc _
  have b2 : Blk ((w.alloc (.cells #[.int .i64 a] 3)).alloc (.cells #[.slice A b.length c] 75)) (w.heap.size + 1) 75 #[.slice A b.length c] := by
    have := Blk.new (w.alloc (.cells #[.int .i64 a] 3)) 75 #[.slice A b.length c]
    simpa using this
  have q : Below w.heap.size w ((w.alloc (.cells #[.int .i64 a] 3)).alloc (.cells #[.slice A b.length c] 75)) := ((Below.refl _ _).alloc (Nat.le_refl _) _).alloc (by simp) _
  have HU := Lib.hid (hu.later q)
  clear hu
  go_enter Tryd.func45, Tryd.ntmps45
  go_wp2_with fail
  go_ret
  exact ⟨_, rfl, ⟨_, _, A, c, rfl, b1, b2, HU.out⟩, q⟩
set_option maxHeartbeats 1000000 in
theorem freeing_any (a : Int) (w : World) :
    Calls Tryd.prog 44 #[.int .i64 a] w fun e w' => ∃ v, e = .returned v ∧ PnIs w' v (.fr a) ∧ Below w.heap.size w w' := by
  have hmf := run_makeFunc Tryd.prog
  go_enter Tryd.func44, Tryd.ntmps44
  go_wp2_with fail
  go_ret
  exact ⟨_, rfl, ⟨_, rfl, Blk.new _ _ _⟩, (Below.refl _ _).alloc (Nat.le_refl _) _⟩

set_option maxHeartbeats 1000000 in
theorem fclos_any (ga : Nat) (a : Int) (bm n0 : Nat) (f : SF) (n : Int) (w : World) (hga : Blk w ga 3 #[.int .i64 a]) (hs : Secs w bm f n0) (ha : InI a) :
    Calls Tryd.prog 67 #[.map (some bm), .int .i64 n, .pointer (some ⟨ga, 0, none⟩)] w fun e w' => e = .returned (.tuple #[]) ∧ Secs w' bm (f.del a) (f.nDel n0 a) ∧ w.grownBy w' (some bm) := by
  obtain ⟨m, hm, hr⟩ := hs
  obtain ⟨w', hrun, hm', ht⟩ := hm.del intTy secTy ha 0
  have c0 : w.cell? ⟨ga, 0, none⟩ = some (.int .i64 a) := hga.cell 0
  have HR := Lib.hid hr
  have HM := Lib.hid hm'
  have HT := Lib.hid ht
  have HK := Lib.hid (kind_map hm)
  have HI := Lib.hid ha
  have HN : Hid (nDel m n0 a = f.nDel n0 a) := by
    unfold nDel SF.nDel
    rw [Hid, (hr a ha).some_iff]
  clear hr hm' ht hm hga ha
  go_enter Tryd.func67, Tryd.ntmps67
  go_wp2_with fail
  go_end0
  refine ⟨rfl, ⟨_, by rw [← HN.out]; exact HM.out, fun x hx => ?_⟩, HT.out.grown⟩
  unfold SF.del
  by_cases hxa : x = a
  · simp only [hxa, if_true]; trivial
  · simp only [hxa, if_false]
    exact (HR.out x hx).keep fun _ _ h => h.other (by rw [HK.out]; simp) HT.out.grown

theorem grown_then {w w1 w2 : World} {z : Nat} (h : Below w.heap.size w w1) (k : w1.grownBy w2 (some z)) : w.grownBy w2 (some z) :=
  ⟨k.os.trans h.os, k.tape.trans h.tape, k.output.trans h.output, Nat.le_trans h.size k.size, fun i hi hne => (k.block i (Nat.lt_of_lt_of_le hi h.size) hne).trans (h.block i hi)⟩
theorem Secs.put {w w3 : World} {bm n0 : Nat} {m : Int → Option Value} {f : SF} {a : Int} {v : Value} {l : List UInt8} (hr : ∀ x, InI x → SecV w (m x) (f x)) (hm3 : MpV Tryd.prog 3 w3 bm (fun x => if x = a then some v else m x) (nPut m n0 a)) (ht : w.mapTurned w3 bm)
    (hv : Ub w 0 v l) (ha : InI a) (hk : kindAt w bm = some none) : Secs w3 bm (f.put a l) (f.nPut n0 a) := by
  have e : nPut m n0 a = f.nPut n0 a := by unfold nPut SF.nPut; rw [(hr a ha).some_iff]
  refine ⟨_, e ▸ hm3, fun x hx => ?_⟩
  unfold SF.put
  by_cases hxa : x = a
  · simp only [hxa, if_true]
    exact hv.other (by rw [hk]; simp) ht.grown
  · simp only [hxa, if_false]
    exact (hr x hx).keep fun _ _ h => h.other (by rw [hk]; simp) ht.grown
theorem SecV.get {w : World} {v : Option Value} {l : Option (List UInt8)} (h : SecV w v l) : ∃ A c, v.getD (.slice none 0 0) = .slice A (l.getD []).length c ∧ Ub w 0 (.slice A (l.getD []).length c) (l.getD []) := by
  unfold SecV at h
  cases v with
  | none =>
    cases l with
    | none => exact ⟨none, 0, rfl, Sl.nil⟩
    | some l => exact h.elim
  | some v =>
    cases l with
    | none => exact h.elim
    | some l =>
      obtain ⟨A, c, rfl, _⟩ := Ub.bs h |>.at
      exact ⟨A, c, rfl, h⟩

theorem run_slice_pre {P : Program} (w : World) {t e : TypeId} {z : Value} {bytes : Nat} (E : Elem P t e z 1 bytes) {A : Option Addr} {m c : Nat} (_ : True) (hmc : (m : Int) ≤ (c : Int)) (n : Nat) :
    (Instr.sliceAt t (.slice A n c) none (some (.int .i64 (m : Int))) none).run P w = .ok (.slice (if c = 0 then A else A.map (·.add 0)) m c) w := by
  obtain ⟨i, hi0, hz, hs, hby⟩ := E.info
  simp [Instr.sliceAt, Instr.slice, Instr.sliceBounds, Instr.sliceBound, run_underlying E.under, sizeOf, typeInfo, hi0, asIntOf]
  intro h; omega
/-- 'b[:n]' of bytes, whatever the slice is. -/
theorem wpList_slice_pre {P : Program} (w : World) {ops : Array Oper} {rest : List Oper} {o : Oper} {a : Act} {Q : Exit → Act → World → Prop} (hgd : o.guard = none) (x hi : Operand) {t e : TypeId} {z : Value} {bytes : Nat} (E : Elem P t e z 1 bytes)
    (ho : o.op = .slice t x none (some hi) none) {S : Nat → Prop} {l : List UInt8} {A : Option Addr} {c m : Nat} (hb : Bs S w (.slice A l.length c) l) (hx : a.eval x = .slice A l.length c) (hh : a.eval hi = .int .i64 (m : Int)) (hm : m ≤ l.length)
    (h : ∀ A', Bs S w (.slice A' m c) (l.take m) → wpList P ops Q rest (a.put o.dst (.slice A' m c)) w) : wpList P ops Q (o :: rest) a w := by
  refine wpList_plain hgd fun K hK => ?_
  obtain ⟨i, hi0, hz, hs, hby⟩ := E.info
  obtain ⟨A1, c1, hv, h3, h4, h5, h6⟩ := hb.at
  injection hv with hA _ hc
  subst hA hc
  have hl : (l.take m).length = m := by rw [List.length_take]; omega
  have hh' : True := trivial
  have key : ∀ A', (c = 0 → A' = A) → (c ≠ 0 → A' = A.map (·.add 0)) → Bs S w (.slice A' m c) (l.take m) := by
    intro A' g1 g2
    have := Bs.mk_ (S := S) (w := w) (l := l.take m) (A := A') (c := c) (by omega) h4 (fun e0 => by
      by_cases hc0 : c = 0
      · exact hc0
      · have := g2 hc0
        rw [e0] at this
        cases A with
        | none => exact h5 rfl
        | some ad => cases this) (fun hn => by
      obtain ⟨b, o', hA, hS, hcell⟩ := h6 (by omega)
      refine ⟨b, o', ?_, hS, fun j hj => ?_⟩
      · rw [g2 (by omega), hA]
        simp [addr_add_none]
      · rw [hcell j (by omega), List.getElem_take])
    rwa [hl] at this
  have hrun := run_slice_pre (P := P) w E (A := A) hh' (show (m : Int) ≤ (c : Int) by omega) l.length
  unfold Oper.wp
  simp [execOp, ho, hx, hh, hrun, Result.andThen]
  refine hK _ _ (h _ (key _ (fun e => if_pos e) (fun e => if_neg e)))

set_option maxHeartbeats 4000000 in
set_option maxRecDepth 100000 in
theorem wclos_at (ga gb : Nat) (A : Option Addr) (c : Nat) (a : Int) (b : List UInt8) (bm n0 : Nat) (f : SF) (n : Int) (N : Nat) (w : World) (hga : Blk w ga 3 #[.int .i64 a]) (hgb : Blk w gb 75 #[.slice A b.length c]) (hub : Ub w 0 (.slice A b.length c) b)
    (hs : Secs w bm f n0) (hn0 : n0 ≤ 65536) (ha : InI a) (hb : b.length ≤ 512) (ho : ((f a).getD []).length ≤ 512) (hcase : (n < 0 ∧ N = 0) ∨ n = (N : Int)) (hN : N ≤ 9223372036854775807) :
    Calls Tryd.prog 68 #[.map (some bm), .int .i64 n, .pointer (some ⟨gb, 0, none⟩), .pointer (some ⟨ga, 0, none⟩)] w fun e w' => e = .returned (.tuple #[]) ∧ Secs w' bm (f.put a (tornB b ((f a).getD []) (N : Int))) (f.nPut n0 a) ∧ w.grownBy w' (some bm) := by
  obtain ⟨m, hm, hr⟩ := hs
  obtain ⟨Ao, co, hmo, huo⟩ := (hr a ha).get
  obtain ⟨o, hoe⟩ : ∃ o, (f a).getD [] = o := ⟨_, rfl⟩
  rw [hoe] at hmo huo ho ⊢
  have c0 : w.cell? ⟨ga, 0, none⟩ = some (.int .i64 a) := hga.cell 0
  have cb : w.cell? ⟨gb, 0, none⟩ = some (.slice A b.length c) := hgb.cell 0
  obtain ⟨_, _, hv0, hlc, hcm, _, hA⟩ := hub.bs.at
  injection hv0 with hA0 _ hc0
  subst hA0 hc0
  obtain ⟨_, _, hv0, hloc, hocm, _, hAo⟩ := huo.bs.at
  injection hv0 with hA0 _ hc0
  subst hA0 hc0
  have hgaL := hga.lt
  have hgbL := hgb.lt
  have HU := Lib.hid hub
  have HUO := Lib.hid huo
  have HR := Lib.hid hr
  have HM := Lib.hid hm
  have HI := Lib.hid ha
  have HMO := Lib.hid hmo
  have HAO := Lib.hid hAo
  have hr3 : N < b.length ∧ N < o.length ∨ N < b.length ∧ ¬ N < o.length ∨ N = b.length ∨ b.length < N := by omega
  clear hub huo hr hm ha hmo hga hgb hA hAo hoe
  have hgl := hgaL
  have c00 := c0
  have hmax : (if n < 0 then (0 : Int) else n) = (N : Int) := by
    rcases hcase with ⟨h0, rfl⟩ | rfl
    · rw [if_pos h0]; rfl
    · rw [if_neg (by omega)]
  clear hcase
  rcases hr3 with ⟨h1, h2⟩ | ⟨h1, h2⟩ | h1 | h1
  · have HTB : Hid (tornB b o (N : Int) = b.take N ++ o.drop N) := by unfold tornB; rw [Hid, Int.toNat_natCast, if_pos h1]
    obtain ⟨bo, oo, rfl, _, _⟩ := HAO.out (by omega)
    have hkc : ¬ co = N := by omega
    have HC : Hid (Bs (UbS w 0) w (.slice (some ⟨bo, oo + N, none⟩) (o.length - N) (co - N)) (o.drop N)) := by
      have := Bs.cut HUO.out (show N ≤ o.length by omega)
      rw [if_neg hkc] at this
      exact this
    have hmb : N ≤ b.length := by omega
    have i1 : (N : Int) < (b.length : Int) := by omega
    have i2 : ¬ (b.length : Int) < (N : Int) := by omega
    have i3 : (N : Int) ≤ (b.length : Int) := by omega
    have i4 : (N : Int) ≤ (c : Int) := by omega
    have i5 : (N : Int) < (o.length : Int) := by omega
    have i6 : (N : Int) ≤ (o.length : Int) := by omega
    have i7 : (o.length : Int) ≤ (co : Int) := by omega
    have i0 : ¬ (N : Int) < 0 := by omega
    have i9 : (0 : Int) ≤ (N : Int) := by omega
    go_enter Tryd.func68, Tryd.ntmps68
    go_wp2_with (first
      | (refine wpList_slice_pre _ rfl (.tmp 14) (.tmp 15) elemU8 rfl (Sl.alloc1 HU.out _) rfl rfl hmb ?_; intro A9 HP9)
      | (at_builtin; refine wpList_append_bs _ rfl (.tmp 13) (.tmp 16) elemU8 rfl (Ob.made _ _ w.heap.size (Nat.le_refl _) (by simp)) HP9 rfl rfl (by simp only [List.length_nil, List.length_take]; omega) (by simp) ?_; intro A1 k1 c1 w1 hown1 hga1 hat1; have qa : Below w.heap.size w w1 := below_grown_own ((Below.refl _ _).alloc (Nat.le_refl _) _) (Ob.made _ _ w.heap.size (Nat.le_refl _) (by simp)) hga1 (by simp); have hlk := (HM.out.later qa).look1 intTy secTy (nilBytes w1) HI.out; rw [HMO.out] at hlk; have c0 := cell_later qa c0; have cb := cell_later qa cb)
      | (at_builtin; refine wpList_append_bs _ rfl (.tmp 31) (.tmp 34) elemU8 rfl hown1 (Bs.later HC.out qa) rfl rfl (by simp only [List.nil_append, List.length_take, List.length_drop]; omega) qa.size ?_; intro A2 k2 c2 w2 hown2 hga2 hat2; have qb : Below w.heap.size w w2 := below_grown_own qa hown1 hga2 qa.size; have c0 := (qb.cell (p := ⟨ga, 0, none⟩) hgl).trans c00; obtain ⟨w3, hrun3, hm3, ht3⟩ := (HM.out.later qb).put intTy secTy (by unfold maxLen; omega) HI.out (.slice A2 k2 c2); have HM3 := Lib.hid hm3; have HT3 := Lib.hid ht3; clear hm3 ht3)
      | fail)
    go_end0
    refine ⟨rfl, ?_, grown_then qb HT3.out.grown⟩
    have hub3 : Ub w2 0 (.slice A2 k2 c2) (tornB b o (N : Int)) := by rw [HTB.out]; exact (Ub.of_own (by simpa using hown2)).lower (Nat.zero_le _)
    exact Secs.put (fun x hx => (HR.out x hx).keep fun _ _ h => h.later qb) HM3.out HT3.out hub3 HI.out (kind_map (HM.out.later qb))
  · have HTB : Hid (tornB b o (N : Int) = b.take N) := by unfold tornB; rw [Hid, Int.toNat_natCast, if_pos h1, List.drop_eq_nil_of_le (by omega), List.append_nil]
    have hmb : N ≤ b.length := by omega
    have i1 : (N : Int) < (b.length : Int) := by omega
    have i2 : ¬ (b.length : Int) < (N : Int) := by omega
    have i3 : (N : Int) ≤ (b.length : Int) := by omega
    have i4 : (N : Int) ≤ (c : Int) := by omega
    have i5 : ¬ (N : Int) < (o.length : Int) := by omega
    have i0 : ¬ (N : Int) < 0 := by omega
    have i9 : (0 : Int) ≤ (N : Int) := by omega
    go_enter Tryd.func68, Tryd.ntmps68
    go_wp2_with (first
      | (refine wpList_slice_pre _ rfl (.tmp 14) (.tmp 15) elemU8 rfl (Sl.alloc1 HU.out _) rfl rfl hmb ?_; intro A9 HP9)
      | (at_builtin; refine wpList_append_bs _ rfl (.tmp 13) (.tmp 16) elemU8 rfl (Ob.made _ _ w.heap.size (Nat.le_refl _) (by simp)) HP9 rfl rfl (by simp only [List.length_nil, List.length_take]; omega) (by simp) ?_; intro A1 k1 c1 w1 hown1 hga1 hat1; have qa : Below w.heap.size w w1 := below_grown_own ((Below.refl _ _).alloc (Nat.le_refl _) _) (Ob.made _ _ w.heap.size (Nat.le_refl _) (by simp)) hga1 (by simp); have hlk := (HM.out.later qa).look1 intTy secTy (nilBytes w1) HI.out; rw [HMO.out] at hlk; have c0 := cell_later qa c0; have cb := cell_later qa cb; obtain ⟨w3, hrun3, hm3, ht3⟩ := (HM.out.later qa).put intTy secTy (by unfold maxLen; omega) HI.out (.slice A1 k1 c1); have HM3 := Lib.hid hm3; have HT3 := Lib.hid ht3; clear hm3 ht3)
      | fail)
    go_end0
    refine ⟨rfl, ?_, grown_then qa HT3.out.grown⟩
    have hub3 : Ub w1 0 (.slice A1 k1 c1) (tornB b o (N : Int)) := by rw [HTB.out]; exact (Ub.of_own (by simpa using hown1)).lower (Nat.zero_le _)
    exact Secs.put (fun x hx => (HR.out x hx).keep fun _ _ h => h.later qa) HM3.out HT3.out hub3 HI.out (kind_map (HM.out.later qa))
  · subst h1
    have HTB : Hid (tornB b o ((b.length : Nat) : Int) = b.take b.length) := by unfold tornB; rw [Hid, Int.toNat_natCast, if_neg (by omega), List.take_length]
    have hmb : b.length ≤ b.length := by omega
    have i1 : ¬ ((b.length : Nat) : Int) < (b.length : Int) := by omega
    have i3 : (b.length : Int) ≤ (c : Int) := by omega
    have i0 : ¬ ((b.length : Nat) : Int) < 0 := by omega
    have i9 : (0 : Int) ≤ ((b.length : Nat) : Int) := by omega
    go_enter Tryd.func68, Tryd.ntmps68
    go_wp2_with (first
      | (refine wpList_slice_pre _ rfl (.tmp 14) (.tmp 15) elemU8 rfl (Sl.alloc1 HU.out _) rfl rfl hmb ?_; intro A9 HP9)
      | (at_builtin; refine wpList_append_bs _ rfl (.tmp 13) (.tmp 16) elemU8 rfl (Ob.made _ _ w.heap.size (Nat.le_refl _) (by simp)) HP9 rfl rfl (by simp only [List.length_nil, List.length_take]; omega) (by simp) ?_; intro A1 k1 c1 w1 hown1 hga1 hat1; have qa : Below w.heap.size w w1 := below_grown_own ((Below.refl _ _).alloc (Nat.le_refl _) _) (Ob.made _ _ w.heap.size (Nat.le_refl _) (by simp)) hga1 (by simp); have hlk := (HM.out.later qa).look1 intTy secTy (nilBytes w1) HI.out; rw [HMO.out] at hlk; have c0 := cell_later qa c0; have cb := cell_later qa cb; obtain ⟨w3, hrun3, hm3, ht3⟩ := (HM.out.later qa).put intTy secTy (by unfold maxLen; omega) HI.out (.slice A1 k1 c1); have HM3 := Lib.hid hm3; have HT3 := Lib.hid ht3; clear hm3 ht3)
      | fail)
    go_end0
    refine ⟨rfl, ?_, grown_then qa HT3.out.grown⟩
    have hub3 : Ub w1 0 (.slice A1 k1 c1) (tornB b o ((b.length : Nat) : Int)) := by rw [HTB.out]; exact (Ub.of_own (by simpa using hown1)).lower (Nat.zero_le _)
    exact Secs.put (fun x hx => (HR.out x hx).keep fun _ _ h => h.later qa) HM3.out HT3.out hub3 HI.out (kind_map (HM.out.later qa))
  · have HTB : Hid (tornB b o (N : Int) = b.take b.length) := by unfold tornB; rw [Hid, Int.toNat_natCast, if_neg (by omega), List.take_length]
    have hmb : b.length ≤ b.length := by omega
    have i1 : ¬ (N : Int) < (b.length : Int) := by omega
    have i3 : (b.length : Int) ≤ (c : Int) := by omega
    have i2 : (b.length : Int) < (N : Int) := by omega
    have i6 : ¬ (N : Int) ≤ (b.length : Int) := by omega
    have i0 : ¬ (N : Int) < 0 := by omega
    have i9 : (0 : Int) ≤ (N : Int) := by omega
    go_enter Tryd.func68, Tryd.ntmps68
    go_wp2_with (first
      | (refine wpList_slice_pre _ rfl (.tmp 14) (.tmp 15) elemU8 rfl (Sl.alloc1 HU.out _) rfl rfl hmb ?_; intro A9 HP9)
      | (at_builtin; refine wpList_append_bs _ rfl (.tmp 13) (.tmp 16) elemU8 rfl (Ob.made _ _ w.heap.size (Nat.le_refl _) (by simp)) HP9 rfl rfl (by simp only [List.length_nil, List.length_take]; omega) (by simp) ?_; intro A1 k1 c1 w1 hown1 hga1 hat1; have qa : Below w.heap.size w w1 := below_grown_own ((Below.refl _ _).alloc (Nat.le_refl _) _) (Ob.made _ _ w.heap.size (Nat.le_refl _) (by simp)) hga1 (by simp); have hlk := (HM.out.later qa).look1 intTy secTy (nilBytes w1) HI.out; rw [HMO.out] at hlk; have c0 := cell_later qa c0; have cb := cell_later qa cb; obtain ⟨w3, hrun3, hm3, ht3⟩ := (HM.out.later qa).put intTy secTy (by unfold maxLen; omega) HI.out (.slice A1 k1 c1); have HM3 := Lib.hid hm3; have HT3 := Lib.hid ht3; clear hm3 ht3)
      | fail)
    go_end0
    refine ⟨rfl, ?_, grown_then qa HT3.out.grown⟩
    have hub3 : Ub w1 0 (.slice A1 k1 c1) (tornB b o (N : Int)) := by rw [HTB.out]; exact (Ub.of_own (by simpa using hown1)).lower (Nat.zero_le _)
    exact Secs.put (fun x hx => (HR.out x hx).keep fun _ _ h => h.later qa) HM3.out HT3.out hub3 HI.out (kind_map (HM.out.later qa))
end Go.Proofs.YtpmndmgfoiagnaaDoor
