/- record.Get: what it returns. -/
import Derived.Test.YtpmndmgfoiagnaaDoorRecA
import Derived.Test.YtpmndmgfoiagnaaDoorCodT
import Derived.Test.YtpmndmgfoiagnaaDoorRes
namespace Go.Proofs.YtpmndmgfoiagnaaDoor
open Go Go.RowKit
set_option linter.unusedVariables false

def rgetV : Option ((Nat × List UInt8) × Nat) → Value
  | some (r, n) => .tuple #[recV r, .int .i64 (n : Int), .bool true]
  | none => .tuple #[recV (0, []), .int .i64 0, .bool false]
theorem recTy : StructTy Tryd.prog 72 2 := ⟨⟨_, Tryd.underlying72⟩, by kernel_rfl⟩
/-- A record's cells are written: both. -/
theorem Blk.put2 {w : World} {g : Nat} {t : TypeId} {a b : Value} (h : Blk w g t #[a, b]) (x y : Value) : Blk ((w.setCell ⟨g, 0, none⟩ x).setCell ⟨g, 1, none⟩ y) g t #[x, y] := (h.put 0 x).put 1 y

set_option maxHeartbeats 1000000 in
set_option maxRecDepth 100000 in
theorem rget_short (A : Option Addr) (k c : Nat) (w : World) (hk : k < 4) :
    Calls Tryd.prog 39 #[.slice A k c] w fun e w' => e = .returned (rgetV none) ∧ Below w.heap.size w w' := by
  have q0 : Below w.heap.size w (w.alloc (.cells #[.int .u64 0, .string (st [])] 72)) := (Below.refl _ _).alloc (Nat.le_refl _) _
  have hb0 := Blk.new w 72 #[.int .u64 0, .string (st [])]
  go_enter Tryd.func39, Tryd.ntmps39
  go_wp2_with fail
  refine (get_short A k c 4 _ (by omega) (by omega) hk).mono ?_
  rintro e w1 ⟨rfl, rfl⟩
  go_wp2_with fail
  exact bodyPost_ret (results_cell3 rfl _ _ w.heap.size rfl hb0 recTy) rfl ⟨rfl, q0⟩

theorem Ob.cases {e : TypeId} {w : World} {B : Nat} {A : Option Addr} {k c : Nat} {l : List UInt8} (h : Ob e w B (.slice A k c) l) : (A = none ∧ l = [] ∧ c = 0) ∨ ∃ g, A = some ⟨g, 0, none⟩ := by
  rcases h.2 with ⟨hv, hn⟩ | ⟨g, cap, cur, hv, _⟩
  · injection hv with hA _ hc
    exact .inl ⟨hA, List.eq_nil_of_length_eq_zero hn, hc⟩
  · injection hv with hA _ hc
    exact .inr ⟨g, hA⟩
theorem openB_err {l : List UInt8} {er : Nat} (h : openB l = .error er) : er = 20 ∨ er = 21 := by
  unfold openB at h
  split at h
  · cases h; exact .inl rfl
  · split at h
    · cases h
    · cases h; exact .inr rfl
theorem openB_len {l f : List UInt8} (h : openB l = .ok f) : f.length ≤ l.length := by
  unfold openB at h
  split at h
  · cases h
  · split at h
    · cases h; rw [List.length_take]; omega
    · cases h
/-- What the fields say. -/
def recIn (f : List UInt8) (n : Nat) : Option ((Nat × List UInt8) × Nat) :=
  if (rdText (rdNum f 0).2.1 (rdNum f 0).2.2).2.2 = 0 ∧ (rdText (rdNum f 0).2.1 (rdNum f 0).2.2).2.1 = [] ∧ (rdText (rdNum f 0).2.1 (rdNum f 0).2.2).1.length ≤ 32768
  then some (((rdNum f 0).1, (rdText (rdNum f 0).2.1 (rdNum f 0).2.2).1), 4 + n) else none
def recOp (m : List UInt8) (n : Nat) : Option ((Nat × List UInt8) × Nat) := match openB (m.take n) with
  | .error _ => none
  | .ok f => recIn f n
theorem recGet_op {l : List UInt8} (h : ¬ (l.length < 4 ∨ (l.drop 4).length < deB (l.take 4))) : recGet l = recOp (l.drop 4) (deB (l.take 4)) := by
  unfold recGet recOp recIn
  rw [if_neg h]
  cases openB ((l.drop 4).take (deB (l.take 4))) <;> rfl
theorem openB_nil : openB [] = .error 20 := by unfold openB; rw [if_pos (by simp)]
theorem rdEnd_zero {l : List UInt8} {e : Nat} : rdEnd l e = 0 ↔ e = 0 ∧ l = [] := by
  unfold rdEnd
  constructor
  · intro h
    split at h
    · cases h
    · rename_i h2
      subst h
      refine ⟨rfl, ?_⟩
      rcases l with _ | ⟨b, l⟩
      · rfl
      · exact absurd ⟨rfl, by simp⟩ h2
  · rintro ⟨rfl, rfl⟩
    rfl
theorem rdNum_le (l : List UInt8) {e : Nat} (he : e ≤ 1000) : (rdNum l e).1 < U64 ∧ (rdNum l e).2.1.length ≤ l.length ∧ (rdNum l e).2.2 ≤ 1000 := by
  unfold rdNum
  split
  · exact ⟨by simp [U64], Nat.le_refl _, he⟩
  · split
    · rename_i er hg
      exact ⟨by simp [U64], Nat.le_refl _, (rdErr_le hg).1⟩
    · rename_i x n hg
      exact ⟨(getVarB_bound hg).1, by rw [List.length_drop]; omega, Nat.zero_le _⟩
theorem rdText_le (l : List UInt8) {e : Nat} (he : e ≤ 1000) : (rdText l e).1.length ≤ 65536 ∧ (rdText l e).2.1.length ≤ l.length ∧ (rdText l e).2.2 ≤ 1000 := by
  unfold rdText
  split
  · exact ⟨by simp, Nat.le_refl _, he⟩
  · split
    · rename_i er hg
      exact ⟨by simp, Nat.le_refl _, (rdErr_le hg).1⟩
    · rename_i x n hg
      split
      · exact ⟨by simp, Nat.le_refl _, (show 32 ≤ 1000 by decide)⟩
      · split
        · exact ⟨by simp, Nat.le_refl _, (show 30 ≤ 1000 by decide)⟩
        · exact ⟨by simp only [List.length_take]; omega, by simp only [List.length_drop]; omega, Nat.zero_le _⟩

set_option maxHeartbeats 2000000 in
set_option maxRecDepth 100000 in
theorem rget_any (S : Nat → Prop) (v0 : Value) (l : List UInt8) (w : World) (hl : l.length ≤ 1099511627776) (hr : Bs S w v0 l) :
    Calls Tryd.prog 39 #[v0] w fun e w' => e = .returned (rgetV (recGet l)) ∧ Below w.heap.size w w' := by
  have HR : Hid (Bs (fun b => b < w.heap.size) w v0 l) := (Sl.lt hr (by omega)).more (fun _ h => h.2)
  by_cases h4 : l.length < 4
  · obtain ⟨A, c, rfl, _⟩ := hr.at
    have e : recGet l = none := by unfold recGet; rw [if_pos (.inl h4)]
    rw [e]
    exact rget_short A l.length c w h4
  have q0 : Below w.heap.size w (w.alloc (.cells #[.int .u64 0, .string (st [])] 72)) := (Below.refl _ _).alloc (Nat.le_refl _) _
  have hb0 := Blk.new w 72 #[.int .u64 0, .string (st [])]
  have hr0 : Hid (Bs (fun b => b < w.heap.size) (w.alloc (.cells #[.int .u64 0, .string (st [])] 72)) v0 l) := Sl.alloc HR.out (fun _ h => h) _
  have hd4 : deB (l.take 4) < 4294967296 := Nat.lt_of_lt_of_le (deB_take_lt l 4) (by decide)
  have hdl : (l.drop 4).length ≤ 1099511627776 := by rw [List.length_drop]; omega
  go_enter Tryd.func39, Tryd.ntmps39
  go_wp2_with fail
  refine (get_ok _ v0 l 4 _ (by omega) (by omega) (by omega) hl hr0.out).mono ?_
  rintro e w1 ⟨A1, k1, c1, rfl, hown1, hbl1⟩
  obtain rfl := hown1.len
  have hb1 := hb0.later hbl1
  have q1 := q0.trans (hbl1.mono q0.size)
  have hs1 := q1.size
  have hwr : IntKind.u64.wrap ((l.drop 4).length : Int) = ((l.drop 4).length : Int) := wrap_u64 (by omega) (by unfold U64; omega)
  have HO1 := Lib.hid hown1
  have d0 : w1.cell? ⟨w.heap.size, 0, none⟩ = some (.int .u64 0) := hb1.cell 0
  have d1 : w1.cell? ⟨w.heap.size, 1, none⟩ = some (.string (st [])) := hb1.cell 1
  have f0 := hb1.free 0
  have f1 := hb1.free 1
  have HB1 := Lib.hid hb1
  clear hown1 hb1 hb0 hbl1 hr0
  by_cases hn : (l.drop 4).length < deB (l.take 4)
  · have HN : Hid (recGet l = none) := by unfold recGet; rw [Hid, if_pos (.inr hn)]
    generalize deB (l.take 4) = n at *
    generalize l.drop 4 = m at *
    have t0 : decide (m.length < n) = true := by rw [decide_eq_true_eq]; exact hn
    clear hn
    go_wp2_with fail
    exact bodyPost_ret (results_cell3 rfl _ _ w.heap.size rfl (HB1.out.put2 _ _) recTy) rfl ⟨by rw [HN.out]; rfl, (q1.setCell (by simp) _).setCell (by simp) _⟩
  · have hnm : deB (l.take 4) ≤ (l.drop 4).length := by omega
    have HG : Hid (recGet l = recOp (l.drop 4) (deB (l.take 4))) := recGet_op (by omega)
    generalize deB (l.take 4) = n at *
    generalize l.drop 4 = m at *
    have t0 : decide (m.length < n) = false := by rw [decide_eq_false_iff_not]; exact hn
    clear hn
    rcases HO1.out.cases with ⟨rfl, rfl, rfl⟩ | ⟨g1, rfl⟩
    · obtain rfl : n = 0 := by simpa using hnm
      have HN : Hid (recGet l = none) := by rw [Hid, HG.out, recOp, List.take_nil, openB_nil]
      clear HG
      go_wp2_with fail
      refine (open_any _ _ [] w1 (by simp) (Bs.nilv (fun _ => True) _)).mono ?_
      rintro e w2 ⟨_, her, hbl2⟩
      obtain rfl := her _ openB_nil
      have hb2 := HB1.out.later hbl2
      have e0 : w2.cell? ⟨w.heap.size, 0, none⟩ = some (.int .u64 0) := hb2.cell 0
      have e1 : w2.cell? ⟨w.heap.size, 1, none⟩ = some (.string (st [])) := hb2.cell 1
      have g0 := hb2.free 0
      have g1 := hb2.free 1
      have q2 := q1.trans (hbl2.mono hs1)
      clear her
      go_wp2_with fail
      exact bodyPost_ret (results_cell3 rfl _ _ w.heap.size rfl (hb2.put2 _ _) recTy) rfl ⟨by rw [HN.out]; rfl, (q2.setCell (by simp) _).setCell (by simp) _⟩
    · have hpre := Lib.hid (Bs.pre HO1.out.bs hnm)
      have hcp : m.length ≤ c1 := by
        obtain ⟨_, c', hv, h, _⟩ := HO1.out.bs.at
        injection hv with _ _ hv
        omega
      have hml : (m.take n).length ≤ 1099511627776 := by rw [List.length_take]; omega
      have HNM := Lib.hid hnm
      go_wp2_with fail
      refine (open_any _ _ (m.take n) w1 hml hpre.out).mono ?_
      rintro e w2 ⟨hok, her, hbl2⟩
      have hb2 := HB1.out.later hbl2
      have q2 := q1.trans (hbl2.mono hs1)
      have hs2 := q2.size
      cases ho : openB (m.take n) with
      | error er =>
        obtain rfl := her _ ho
        have HN : Hid (recGet l = none) := by rw [Hid, HG.out, recOp, ho]
        have e0 : w2.cell? ⟨w.heap.size, 0, none⟩ = some (.int .u64 0) := hb2.cell 0
        have e1 : w2.cell? ⟨w.heap.size, 1, none⟩ = some (.string (st [])) := hb2.cell 1
        have g0 := hb2.free 0
        have g1 := hb2.free 1
        have t1 : ((er : Int) != 0) = true := by
          rw [bne_iff_ne]
          rcases openB_err ho with rfl | rfl <;> decide
        clear her hok HG ho
        go_wp2_with fail
        exact bodyPost_ret (results_cell3 rfl _ _ w.heap.size rfl (hb2.put2 _ _) recTy) rfl ⟨by rw [HN.out]; rfl, (q2.setCell (by simp) _).setCell (by simp) _⟩
      | ok f =>
        obtain ⟨A2, k2, c2, rfl, hown2⟩ := hok _ ho
        have hfl : f.length ≤ 1099511627776 := Nat.le_trans (openB_len ho) hml
        have HG : Hid (recGet l = recIn f n) := by rw [Hid, HG.out, recOp, ho]
        have HO2 := Lib.hid hown2
        have HB2 := Lib.hid hb2
        have hmf := run_makeFunc Tryd.prog
        have hwn : IntKind.i64.wrap (4 + (n : Int)) = 4 + (n : Int) := IntWalk.i64_in _ (by omega)
        have hwn2 : IntKind.i64.wrap (n : Int) = (n : Int) := IntWalk.i64_in _ (by omega)
        clear her hok ho hown2 hpre hb2 d0 d1 f0 f1
        go_wp2_with fail
        refine (read_any _ _ f w2 hfl HO2.out.bs).mono ?_
        rintro e w3 ⟨g, rfl, hg3, hr3, hbl3⟩
        have HB3 := Lib.hid (HB2.out.later hbl3)
        have q3 := q2.trans (hbl3.mono hs2)
        have hs3 := q3.size
        have hne : g ≠ w.heap.size := by have := HB2.out.lt; omega
        have HR3 := Lib.hid hr3
        clear hr3
        go_wp2_with fail
        refine (rnum_any g w2.heap.size f 0 w3 HR3.out hbl3.size hfl).mono ?_
        rintro e w4 ⟨rfl, hr4, hgr4⟩
        have hle4 := rdNum_le f (e := 0) (by omega)
        obtain ⟨X, hX⟩ : ∃ X, rdNum f 0 = X := ⟨_, rfl⟩
        rw [hX] at hr4 hle4
        rw [hX]
        obtain ⟨q, r4, e4⟩ := X
        simp only at hr4 hle4 ⊢
        have HB4 := Lib.hid (HB3.out.grown hgr4 (by simpa using hne))
        have q4 := q3.trans (grown_below hgr4 (by omega) hs3)
        have hs4 := q4.size
        have HR4 := Lib.hid hr4
        have hw4 : w2.heap.size ≤ w4.heap.size := Nat.le_trans hbl3.size hgr4.size
        clear hr4 hgr4
        go_wp2_with fail
        refine (rtext_any g w2.heap.size r4 e4 w4 HR4.out hw4 (by omega)).mono ?_
        rintro e w5 ⟨rfl, hr5, hgr5⟩
        have hle5 := rdText_le r4 hle4.2.2
        obtain ⟨Y, hY⟩ : ∃ Y, rdText r4 e4 = Y := ⟨_, rfl⟩
        rw [hY] at hr5 hle5
        rw [hY]
        obtain ⟨t, r5, e5⟩ := Y
        simp only at hr5 hle5 ⊢
        have HB5 := Lib.hid (HB4.out.grown hgr5 (by simpa using hne))
        have q5 := q4.trans (grown_below hgr5 (by omega) hs4)
        have hs5 := q5.size
        have HR5 := Lib.hid (hr5.later ((Below.refl _ _).alloc (Nat.le_refl _) (.cells #[.int .u64 (q : Int), .string (st t)] 72)))
        have HG2 : Hid (recGet l = if e5 = 0 ∧ r5 = [] ∧ t.length ≤ 32768 then some ((q, t), 4 + n) else none) := by rw [Hid, HG.out, recIn]; simp only [hX, hY]
        have hnb := Blk.new w5 72 #[.int .u64 (q : Int), .string (st t)]
        have q6 := q5.alloc hs5 (.cells #[.int .u64 (q : Int), .string (st t)] 72)
        have hb6 := HB5.out.alloc (.cells #[.int .u64 (q : Int), .string (st t)] 72)
        have hws5 : w.heap.size ≠ w5.heap.size := by have := HB5.out.lt; omega
        have HRL := Lib.hid (show r5.length ≤ 1099511627776 by omega)
        clear hr5 hgr5 HG hX hY hle4 hle5
        go_wp2_with fail
        refine (end_rd g w2.heap.size r5 e5 _ HR5.out HRL.out).mono ?_
        rintro e w6 ⟨rfl, rfl⟩
        have d0 : (w5.alloc (.cells #[.int .u64 (q : Int), .string (st t)] 72)).cell? ⟨w.heap.size, 0, none⟩ = some (.int .u64 0) := hb6.cell 0
        have d1 : (w5.alloc (.cells #[.int .u64 (q : Int), .string (st t)] 72)).cell? ⟨w.heap.size, 1, none⟩ = some (.string (st [])) := hb6.cell 1
        have f0 := hb6.free 0
        have f1 := hb6.free 1
        have HZ := Lib.hid (rdEnd_zero (l := r5) (e := e5))
        by_cases hE : rdEnd r5 e5 = 0
        · have hz := HZ.out.1 hE
          rw [hE]
          by_cases ht : t.length ≤ 32768
          · have HN : Hid (recGet l = some ((q, t), 4 + n)) := by rw [Hid, HG2.out, if_pos ⟨hz.1, hz.2, ht⟩]
            clear hz hE HG2
            go_wp2_with fail
            exact bodyPost_ret (results_cell3 rfl _ _ w.heap.size rfl (hb6.put2 _ _) recTy) rfl ⟨by rw [HN.out]; rfl, (q6.setCell (by simp) _).setCell (by simp) _⟩
          · have HN : Hid (recGet l = none) := by rw [Hid, HG2.out, if_neg (fun h => ht h.2.2)]
            clear hz hE HG2
            go_wp2_with fail
            exact bodyPost_ret (results_cell3 rfl _ _ w.heap.size rfl (hb6.put2 _ _) recTy) rfl ⟨by rw [HN.out]; rfl, (q6.setCell (by simp) _).setCell (by simp) _⟩
        · have HN : Hid (recGet l = none) := by rw [Hid, HG2.out, if_neg (fun h => hE (HZ.out.2 ⟨h.1, h.2.1⟩))]
          have t1 : ((rdEnd r5 e5 : Int) != 0) = true := by rw [bne_iff_ne]; omega
          generalize rdEnd r5 e5 = ee at *
          clear hE HG2 HZ
          go_wp2_with fail
          exact bodyPost_ret (results_cell3 rfl _ _ w.heap.size rfl (hb6.put2 _ _) recTy) rfl ⟨by rw [HN.out]; rfl, (q6.setCell (by simp) _).setCell (by simp) _⟩
end Go.Proofs.YtpmndmgfoiagnaaDoor
