/- What the proof of TreeOpens needs, part 4. -/
import Derived.Test.YthbhkdhljlganaaGreatDoorTreeOpensJ3
import Derived.BigRegion
import Derived.Deep.RegionHeld3
import Derived.BigQuiet
import Derived.Deep.QuietTactic
import Derived.StillTailTactics
import Derived.IntWalk
import Derived.Laws.EntriesVeiled
import Derived.Lib.TrailingZeros
import Derived.Laws.BitsAllLaws

namespace Go.Proofs.YthbhkdhljlganaaGreatDoor
open Go Go.RowKit
set_option linter.unusedVariables false

def rgetV : Option ((Nat × List UInt8) × Nat) → Value
  | some (r, n) => .tuple #[recV r, .int .i64 (n : Int), .bool true]
  | none => .tuple #[recV (0, []), .int .i64 0, .bool false]
theorem recTy : StructTy Tryz.prog 131 2 := ⟨⟨_, Tryz.underlying131⟩, by kernel_rfl⟩
/-- A record's cells are written: both. -/
theorem Blk.put2 {w : World} {g : Nat} {t : TypeId} {a b : Value} (h : Blk w g t #[a, b]) (x y : Value) : Blk ((w.setCell ⟨g, 0, none⟩ x).setCell ⟨g, 1, none⟩ y) g t #[x, y] := (h.put 0 x).put 1 y

set_option maxHeartbeats 1000000 in
set_option maxRecDepth 100000 in
theorem rget_short (A : Option Addr) (k c : Nat) (w : World) (hk : k < 4) :
    Calls Tryz.prog 120 #[.slice A k c] w fun e w' => e = .returned (rgetV none) ∧ Below w.heap.size w w' := by
  have q0 : Below w.heap.size w (w.alloc (.cells #[.int .u64 0, .string (st [])] 131)) := (Below.refl _ _).alloc (Nat.le_refl _) _
  have hb0 := Blk.new w 131 #[.int .u64 0, .string (st [])]
  go_enter Tryz.func120, Tryz.ntmps120
  go_wp2_with fail
  refine (get_short A k c 4 _ (by omega) (by omega) hk).mono ?_
  rintro e w1 ⟨rfl, rfl⟩
  go_wp2_with fail
  exact bodyPost_ret (results_cell3 rfl _ _ w.heap.size rfl hb0 recTy) rfl ⟨rfl, q0⟩

theorem Ob.cases {e : TypeId} {w : World} {B : Nat} {A : Option Addr} {k c : Nat} {l : List UInt8} (h : Ob e w B (.slice A k c) l) : (A = none ∧ l = [] ∧ c = 0) ∨ ∃ g, A = some ⟨g, 0, none⟩ := by
  rcases h.2 with ⟨hv, hn⟩ | ⟨g, cap, cur, hv, _⟩
  · injection hv with hA _ hc
    exact .inl ⟨hA, List.eq_nil_of_length_eq_zero hn, hc⟩
  · injection hv with hA _ hc
    exact .inr ⟨g, hA⟩
theorem openB_err {l : List UInt8} {er : Nat} (h : openB l = .error er) : er = 20 ∨ er = 21 := by
  unfold openB at h
  split at h
  · cases h; exact .inl rfl
  · split at h
    · cases h
    · cases h; exact .inr rfl
theorem openB_len {l f : List UInt8} (h : openB l = .ok f) : f.length ≤ l.length := by
  unfold openB at h
  split at h
  · cases h
  · split at h
    · cases h; rw [List.length_take]; omega
    · cases h
/-- What the fields say. -/
def recIn (f : List UInt8) (n : Nat) : Option ((Nat × List UInt8) × Nat) :=
  if (rdText (rdNum f 0).2.1 (rdNum f 0).2.2).2.2 = 0 ∧ (rdText (rdNum f 0).2.1 (rdNum f 0).2.2).2.1 = [] ∧ (rdText (rdNum f 0).2.1 (rdNum f 0).2.2).1.length ≤ 32768
  then some (((rdNum f 0).1, (rdText (rdNum f 0).2.1 (rdNum f 0).2.2).1), 4 + n) else none
def recOp (m : List UInt8) (n : Nat) : Option ((Nat × List UInt8) × Nat) := match openB (m.take n) with
  | .error _ => none
  | .ok f => recIn f n
theorem recGet_op {l : List UInt8} (h : ¬ (l.length < 4 ∨ (l.drop 4).length < deB (l.take 4))) : recGet l = recOp (l.drop 4) (deB (l.take 4)) := by
  unfold recGet recOp recIn
  rw [if_neg h]
  cases openB ((l.drop 4).take (deB (l.take 4))) <;> rfl
theorem openB_nil : openB [] = .error 20 := by unfold openB; rw [if_pos (by simp)]
theorem rdEnd_zero {l : List UInt8} {e : Nat} : rdEnd l e = 0 ↔ e = 0 ∧ l = [] := by
  unfold rdEnd
  constructor
  · intro h
    split at h
    · cases h
    · rename_i h2
      subst h
      refine ⟨rfl, ?_⟩
      rcases l with _ | ⟨b, l⟩
      · rfl
      · exact absurd ⟨rfl, by simp⟩ h2
  · rintro ⟨rfl, rfl⟩
    rfl
theorem rdNum_le (l : List UInt8) {e : Nat} (he : e ≤ 1000) : (rdNum l e).1 < U64 ∧ (rdNum l e).2.1.length ≤ l.length ∧ (rdNum l e).2.2 ≤ 1000 := by
  unfold rdNum
  split
  · exact ⟨by simp [U64], Nat.le_refl _, he⟩
  · split
    · rename_i er hg
      exact ⟨by simp [U64], Nat.le_refl _, (rdErr_le hg).1⟩
    · rename_i x n hg
      exact ⟨(getVarB_bound hg).1, by rw [List.length_drop]; omega, Nat.zero_le _⟩
theorem rdText_le (l : List UInt8) {e : Nat} (he : e ≤ 1000) : (rdText l e).1.length ≤ 65536 ∧ (rdText l e).2.1.length ≤ l.length ∧ (rdText l e).2.2 ≤ 1000 := by
  unfold rdText
  split
  · exact ⟨by simp, Nat.le_refl _, he⟩
  · split
    · rename_i er hg
      exact ⟨by simp, Nat.le_refl _, (rdErr_le hg).1⟩
    · rename_i x n hg
      split
      · exact ⟨by simp, Nat.le_refl _, (show 32 ≤ 1000 by decide)⟩
      · split
        · exact ⟨by simp, Nat.le_refl _, (show 30 ≤ 1000 by decide)⟩
        · exact ⟨by simp only [List.length_take]; omega, by simp only [List.length_drop]; omega, Nat.zero_le _⟩

set_option maxHeartbeats 2000000 in
set_option maxRecDepth 100000 in
theorem rget_any (S : Nat → Prop) (v0 : Value) (l : List UInt8) (w : World) (hl : l.length ≤ 1099511627776) (hr : Bs S w v0 l) :
    Calls Tryz.prog 120 #[v0] w fun e w' => e = .returned (rgetV (recGet l)) ∧ Below w.heap.size w w' := by
  have HR : Hid (Bs (fun b => b < w.heap.size) w v0 l) := (Sl.lt hr (by omega)).more (fun _ h => h.2)
  by_cases h4 : l.length < 4
  · obtain ⟨A, c, rfl, _⟩ := hr.at
    have e : recGet l = none := by unfold recGet; rw [if_pos (.inl h4)]
    rw [e]
    exact rget_short A l.length c w h4
  have q0 : Below w.heap.size w (w.alloc (.cells #[.int .u64 0, .string (st [])] 131)) := (Below.refl _ _).alloc (Nat.le_refl _) _
  have hb0 := Blk.new w 131 #[.int .u64 0, .string (st [])]
  have hr0 : Hid (Bs (fun b => b < w.heap.size) (w.alloc (.cells #[.int .u64 0, .string (st [])] 131)) v0 l) := Sl.alloc HR.out (fun _ h => h) _
  have hd4 : deB (l.take 4) < 4294967296 := Nat.lt_of_lt_of_le (deB_take_lt l 4) (by decide)
  have hdl : (l.drop 4).length ≤ 1099511627776 := by rw [List.length_drop]; omega
  go_enter Tryz.func120, Tryz.ntmps120
  go_wp2_with fail
  refine (get_ok _ v0 l 4 _ (by omega) (by omega) (by omega) hl hr0.out).mono ?_
  rintro e w1 ⟨A1, k1, c1, rfl, hown1, hbl1⟩
  obtain rfl := hown1.len
  have hb1 := hb0.later hbl1
  have q1 := q0.trans (hbl1.mono q0.size)
  have hs1 := q1.size
  have hwr : IntKind.u64.wrap ((l.drop 4).length : Int) = ((l.drop 4).length : Int) := wrap_u64 (by omega) (by unfold U64; omega)
  have HO1 := Lib.hid hown1
  have d0 : w1.cell? ⟨w.heap.size, 0, none⟩ = some (.int .u64 0) := hb1.cell 0
  have d1 : w1.cell? ⟨w.heap.size, 1, none⟩ = some (.string (st [])) := hb1.cell 1
  have f0 := hb1.free 0
  have f1 := hb1.free 1
  have HB1 := Lib.hid hb1
  clear hown1 hb1 hb0 hbl1 hr0
  by_cases hn : (l.drop 4).length < deB (l.take 4)
  · have HN : Hid (recGet l = none) := by unfold recGet; rw [Hid, if_pos (.inr hn)]
    generalize deB (l.take 4) = n at *
    generalize l.drop 4 = m at *
    have t0 : decide (m.length < n) = true := by rw [decide_eq_true_eq]; exact hn
    clear hn
    go_wp2_with fail
    exact bodyPost_ret (results_cell3 rfl _ _ w.heap.size rfl (HB1.out.put2 _ _) recTy) rfl ⟨by rw [HN.out]; rfl, (q1.setCell (by simp) _).setCell (by simp) _⟩
  · have hnm : deB (l.take 4) ≤ (l.drop 4).length := by omega
    have HG : Hid (recGet l = recOp (l.drop 4) (deB (l.take 4))) := recGet_op (by omega)
    generalize deB (l.take 4) = n at *
    generalize l.drop 4 = m at *
    have t0 : decide (m.length < n) = false := by rw [decide_eq_false_iff_not]; exact hn
    clear hn
    rcases HO1.out.cases with ⟨rfl, rfl, rfl⟩ | ⟨g1, rfl⟩
    · obtain rfl : n = 0 := by simpa using hnm
      have HN : Hid (recGet l = none) := by rw [Hid, HG.out, recOp, List.take_nil, openB_nil]
      clear HG
      go_wp2_with fail
      refine (open_any _ _ [] w1 (by simp) (Bs.nilv (fun _ => True) _)).mono ?_
      rintro e w2 ⟨_, her, hbl2⟩
      obtain rfl := her _ openB_nil
      have hb2 := HB1.out.later hbl2
      have e0 : w2.cell? ⟨w.heap.size, 0, none⟩ = some (.int .u64 0) := hb2.cell 0
      have e1 : w2.cell? ⟨w.heap.size, 1, none⟩ = some (.string (st [])) := hb2.cell 1
      have g0 := hb2.free 0
      have g1 := hb2.free 1
      have q2 := q1.trans (hbl2.mono hs1)
      clear her
      go_wp2_with fail
      exact bodyPost_ret (results_cell3 rfl _ _ w.heap.size rfl (hb2.put2 _ _) recTy) rfl ⟨by rw [HN.out]; rfl, (q2.setCell (by simp) _).setCell (by simp) _⟩
    · have hpre := Lib.hid (Bs.pre HO1.out.bs hnm)
      have hcp : m.length ≤ c1 := by
        obtain ⟨_, c', hv, h, _⟩ := HO1.out.bs.at
        injection hv with _ _ hv
        omega
      have hml : (m.take n).length ≤ 1099511627776 := by rw [List.length_take]; omega
      have HNM := Lib.hid hnm
      go_wp2_with fail
      refine (open_any _ _ (m.take n) w1 hml hpre.out).mono ?_
      rintro e w2 ⟨hok, her, hbl2⟩
      have hb2 := HB1.out.later hbl2
      have q2 := q1.trans (hbl2.mono hs1)
      have hs2 := q2.size
      cases ho : openB (m.take n) with
      | error er =>
        obtain rfl := her _ ho
        have HN : Hid (recGet l = none) := by rw [Hid, HG.out, recOp, ho]
        have e0 : w2.cell? ⟨w.heap.size, 0, none⟩ = some (.int .u64 0) := hb2.cell 0
        have e1 : w2.cell? ⟨w.heap.size, 1, none⟩ = some (.string (st [])) := hb2.cell 1
        have g0 := hb2.free 0
        have g1 := hb2.free 1
        have t1 : ((er : Int) != 0) = true := by
          rw [bne_iff_ne]
          rcases openB_err ho with rfl | rfl <;> decide
        clear her hok HG ho
        go_wp2_with fail
        exact bodyPost_ret (results_cell3 rfl _ _ w.heap.size rfl (hb2.put2 _ _) recTy) rfl ⟨by rw [HN.out]; rfl, (q2.setCell (by simp) _).setCell (by simp) _⟩
      | ok f =>
        obtain ⟨A2, k2, c2, rfl, hown2⟩ := hok _ ho
        have hfl : f.length ≤ 1099511627776 := Nat.le_trans (openB_len ho) hml
        have HG : Hid (recGet l = recIn f n) := by rw [Hid, HG.out, recOp, ho]
        have HO2 := Lib.hid hown2
        have HB2 := Lib.hid hb2
        have hmf := run_makeFunc Tryz.prog
        have hwn : IntKind.i64.wrap (4 + (n : Int)) = 4 + (n : Int) := IntWalk.i64_in _ (by omega)
        have hwn2 : IntKind.i64.wrap (n : Int) = (n : Int) := IntWalk.i64_in _ (by omega)
        clear her hok ho hown2 hpre hb2 d0 d1 f0 f1
        go_wp2_with fail
        refine (read_any _ _ f w2 hfl HO2.out.bs).mono ?_
        rintro e w3 ⟨g, rfl, hg3, hr3, hbl3⟩
        have HB3 := Lib.hid (HB2.out.later hbl3)
        have q3 := q2.trans (hbl3.mono hs2)
        have hs3 := q3.size
        have hne : g ≠ w.heap.size := by have := HB2.out.lt; omega
        have HR3 := Lib.hid hr3
        clear hr3
        go_wp2_with fail
        refine (rnum_any g w2.heap.size f 0 w3 HR3.out hbl3.size hfl).mono ?_
        rintro e w4 ⟨rfl, hr4, hgr4⟩
        have hle4 := rdNum_le f (e := 0) (by omega)
        obtain ⟨X, hX⟩ : ∃ X, rdNum f 0 = X := ⟨_, rfl⟩
        rw [hX] at hr4 hle4
        rw [hX]
        obtain ⟨q, r4, e4⟩ := X
        simp only at hr4 hle4 ⊢
        have HB4 := Lib.hid (HB3.out.grown hgr4 (by simpa using hne))
        have q4 := q3.trans (grown_below hgr4 (by omega) hs3)
        have hs4 := q4.size
        have HR4 := Lib.hid hr4
        have hw4 : w2.heap.size ≤ w4.heap.size := Nat.le_trans hbl3.size hgr4.size
        clear hr4 hgr4
        go_wp2_with fail
        refine (rtext_any g w2.heap.size r4 e4 w4 HR4.out hw4 (by omega)).mono ?_
        rintro e w5 ⟨rfl, hr5, hgr5⟩
        have hle5 := rdText_le r4 hle4.2.2
        obtain ⟨Y, hY⟩ : ∃ Y, rdText r4 e4 = Y := ⟨_, rfl⟩
        rw [hY] at hr5 hle5
        rw [hY]
        obtain ⟨t, r5, e5⟩ := Y
        simp only at hr5 hle5 ⊢
        have HB5 := Lib.hid (HB4.out.grown hgr5 (by simpa using hne))
        have q5 := q4.trans (grown_below hgr5 (by omega) hs4)
        have hs5 := q5.size
        have HR5 := Lib.hid (hr5.later ((Below.refl _ _).alloc (Nat.le_refl _) (.cells #[.int .u64 (q : Int), .string (st t)] 131)))
        have HG2 : Hid (recGet l = if e5 = 0 ∧ r5 = [] ∧ t.length ≤ 32768 then some ((q, t), 4 + n) else none) := by rw [Hid, HG.out, recIn]; simp only [hX, hY]
        have hnb := Blk.new w5 131 #[.int .u64 (q : Int), .string (st t)]
        have q6 := q5.alloc hs5 (.cells #[.int .u64 (q : Int), .string (st t)] 131)
        have hb6 := HB5.out.alloc (.cells #[.int .u64 (q : Int), .string (st t)] 131)
        have hws5 : w.heap.size ≠ w5.heap.size := by have := HB5.out.lt; omega
        have HRL := Lib.hid (show r5.length ≤ 1099511627776 by omega)
        clear hr5 hgr5 HG hX hY hle4 hle5
        go_wp2_with fail
        refine (end_rd g w2.heap.size r5 e5 _ HR5.out HRL.out).mono ?_
        rintro e w6 ⟨rfl, rfl⟩
        have d0 : (w5.alloc (.cells #[.int .u64 (q : Int), .string (st t)] 131)).cell? ⟨w.heap.size, 0, none⟩ = some (.int .u64 0) := hb6.cell 0
        have d1 : (w5.alloc (.cells #[.int .u64 (q : Int), .string (st t)] 131)).cell? ⟨w.heap.size, 1, none⟩ = some (.string (st [])) := hb6.cell 1
        have f0 := hb6.free 0
        have f1 := hb6.free 1
        have HZ := Lib.hid (rdEnd_zero (l := r5) (e := e5))
        by_cases hE : rdEnd r5 e5 = 0
        · have hz := HZ.out.1 hE
          rw [hE]
          by_cases ht : t.length ≤ 32768
          · have HN : Hid (recGet l = some ((q, t), 4 + n)) := by rw [Hid, HG2.out, if_pos ⟨hz.1, hz.2, ht⟩]
            clear hz hE HG2
            go_wp2_with fail
            exact bodyPost_ret (results_cell3 rfl _ _ w.heap.size rfl (hb6.put2 _ _) recTy) rfl ⟨by rw [HN.out]; rfl, (q6.setCell (by simp) _).setCell (by simp) _⟩
          · have HN : Hid (recGet l = none) := by rw [Hid, HG2.out, if_neg (fun h => ht h.2.2)]
            clear hz hE HG2
            go_wp2_with fail
            exact bodyPost_ret (results_cell3 rfl _ _ w.heap.size rfl (hb6.put2 _ _) recTy) rfl ⟨by rw [HN.out]; rfl, (q6.setCell (by simp) _).setCell (by simp) _⟩
        · have HN : Hid (recGet l = none) := by rw [Hid, HG2.out, if_neg (fun h => hE (HZ.out.2 ⟨h.1, h.2.1⟩))]
          have t1 : ((rdEnd r5 e5 : Int) != 0) = true := by rw [bne_iff_ne]; omega
          generalize rdEnd r5 e5 = ee at *
          clear hE HG2 HZ
          go_wp2_with fail
          exact bodyPost_ret (results_cell3 rfl _ _ w.heap.size rfl (hb6.put2 _ _) recTy) rfl ⟨by rw [HN.out]; rfl, (q6.setCell (by simp) _).setCell (by simp) _⟩
end Go.Proofs.YthbhkdhljlganaaGreatDoor

namespace Go.Proofs.YthbhkdhljlganaaGreatDoor
open Go Go.RowKit
set_option linter.unusedVariables false

/-- What a sector tells. -/
def tellsO : Option (List UInt8) → Option (Nat × List UInt8)
  | some s => tellsB s
  | none => none
def TlPost (f : SF) (a : Int) (w : World) (e : Ending) (w' : World) : Prop :=
  ∃ (r : Nat × List UInt8) (ok : Bool), e = .returned (.tuple #[recV r, .bool ok]) ∧ tellsO (f a) = (if ok then some r else none) ∧ Below w.heap.size w w'
theorem tl_none {f : SF} {a : Int} (r : Nat × List UInt8) {w w' : World} (h : tellsO (f a) = none) (hb : Below w.heap.size w w') : TlPost f a w (.returned (.tuple #[recV r, .bool false])) w' := ⟨r, false, rfl, h, hb⟩
theorem tl_some {f : SF} {a : Int} (r : Nat × List UInt8) {w w' : World} (h : tellsO (f a) = some r) (hb : Below w.heap.size w w') : TlPost f a w (.returned (.tuple #[recV r, .bool true])) w' := ⟨r, true, rfl, h, hb⟩

theorem tl_blk {W : World} {g : Nat} {t : TypeId} {a b : Value} (h : Blk W g t #[a, b]) (x y : Value) : Blk ((W.setCell ⟨g, 0, none⟩ x).setCell ⟨g, 1, none⟩ y).drew g t #[x, y] := (h.put 0 x).put 1 y
theorem tl_below {B : Nat} {w W : World} (h : Below B w W) {g : Nat} (hg : B ≤ g) (x y : Value) : Below B w ((W.setCell ⟨g, 0, none⟩ x).setCell ⟨g, 1, none⟩ y).drew := ((h.setCell (p := ⟨g, 0, none⟩) hg x).setCell (p := ⟨g, 1, none⟩) hg y).drew
theorem tells_out {f : SF} {a : Int} {s : List UInt8} (hv : f a = some s) : tellsO (f a) = tellsB s := by rw [hv]; rfl
set_option maxHeartbeats 4000000 in
set_option maxRecDepth 100000 in
theorem mtells_any (h : Zn) (D : Dsk) (a : Int) (w : World) (hd : Dk w h D) (hok : D.Ok) (ha : InI a) :
    Calls Tryz.prog 75 #[.pointer (some ⟨h.g, 0, none⟩), .int .i64 a] w (TlPost D.view a w) := by
  have HD := Lib.hid hd
  have HOK := Lib.hid hok
  have b0 := Blk.new w 131 #[.int .u64 0, .string ⟨#[]⟩]
  have q0 := (Below.refl w.heap.size w).alloc (Nat.le_refl _) (.cells #[.int .u64 0, .string ⟨#[]⟩] 131)
  have HB0 := Lib.hid b0
  have HQ0 := Lib.hid q0
  have HL0 : Hid (Below w.heap.size w (w.alloc (.cells #[.int .u64 0, .string ⟨#[]⟩] 131))) := q0
  clear hd hok b0 q0
  go_enter Tryz.func75, Tryz.ntmps75
  go_wp2_with fail
  refine (dread_any h D a _ (HD.out.later HL0.out) HOK.out ha).mono ?_
  rintro e w1 ⟨hs, hn, hb1⟩
  have HB1 := Lib.hid hb1
  cases hv : D.view a with
  | none =>
    obtain rfl := hn hv
    have HT : Hid (tellsO (D.view a) = none) := by rw [Hid, hv]; rfl
    clear hs hn hb1 hv
    go_wp2_with fail
    refine (rget_any (fun _ => True) _ [] _ (by simp) Sl.nil).mono ?_
    rintro e w2 ⟨rfl, hb2⟩
    have hr : recGet [] = none := rfl
    rw [hr]
    unfold rgetV recV
    have B0 := Lib.hid ((HB0.out.later HB1.out).later hb2)
    have Q2 := Lib.hid ((HQ0.out.trans (HB1.out.mono HQ0.out.size)).trans (hb2.mono (Nat.le_trans HQ0.out.size HB1.out.size)))
    have hlt : w.heap.size < w2.heap.size := B0.out.lt
    have B0a := B0.out.alloc (.cells #[.int .u64 ((0 : Nat) : Int), .string (st [])] 131)
    have c0 : (w2.alloc (.cells #[.int .u64 ((0 : Nat) : Int), .string (st [])] 131)).cell? ⟨w.heap.size, 0, none⟩ = some (.int .u64 0) := B0a.cell 0
    have c1 : (w2.alloc (.cells #[.int .u64 ((0 : Nat) : Int), .string (st [])] 131)).cell? ⟨w.heap.size, 1, none⟩ = some (.string ⟨#[]⟩) := B0a.cell 1
    have cf0 : (w2.alloc (.cells #[.int .u64 ((0 : Nat) : Int), .string (st [])] 131)).frozen? ⟨w.heap.size, 0, none⟩ = false := B0a.free 0
    have cf1 : (w2.alloc (.cells #[.int .u64 ((0 : Nat) : Int), .string (st [])] 131)).frozen? ⟨w.heap.size, 1, none⟩ = false := B0a.free 1
    have B8 := Blk.new w2 131 #[.int .u64 ((0 : Nat) : Int), .string (st [])]
    have d0 : (w2.alloc (.cells #[.int .u64 ((0 : Nat) : Int), .string (st [])] 131)).cell? ⟨w2.heap.size, 0, none⟩ = some (.int .u64 ((0 : Nat) : Int)) := B8.cell 0
    have d1 : (w2.alloc (.cells #[.int .u64 ((0 : Nat) : Int), .string (st [])] 131)).cell? ⟨w2.heap.size, 1, none⟩ = some (.string (st [])) := B8.cell 1
    have df0 : (w2.alloc (.cells #[.int .u64 ((0 : Nat) : Int), .string (st [])] 131)).frozen? ⟨w2.heap.size, 0, none⟩ = false := B8.free 0
    have df1 : (w2.alloc (.cells #[.int .u64 ((0 : Nat) : Int), .string (st [])] 131)).frozen? ⟨w2.heap.size, 1, none⟩ = false := B8.free 1
    have BW := Lib.hid B0a
    have QW := Lib.hid (Q2.out.alloc Q2.out.size (.cells #[.int .u64 ((0 : Nat) : Int), .string (st [])] 131))
    clear hb2 B0a B8
    go_wp2_with fail
    generalize hW : w2.alloc _ = W at *
    have n8 : ¬ w.heap.size = w2.heap.size := by omega
    have n8' : ¬ w2.heap.size = w.heap.size := by omega
    go_region
    go_wp2_with fail
    refine bodyPost_ret (results_cell2 rfl _ _ w.heap.size rfl (tl_blk BW.out _ _) recTy) rfl ?_
    exact tl_none (0, []) HT.out (tl_below QW.out (Nat.le_refl _) _ _)
  | some s =>
    obtain ⟨A, c, rfl, hob⟩ := hs s hv
    have HOB := Lib.hid hob
    have hsl : s.length ≤ 512 := (HOK.out.view.at hv).2.2
    have HTV := Lib.hid (tells_out hv)
    clear hs hn hb1 hv hob
    go_wp2_with fail
    refine (rget_any _ _ s _ (by omega) HOB.out.bs).mono ?_
    rintro e w2 ⟨rfl, hb2⟩
    have B0 := Lib.hid ((HB0.out.later HB1.out).later hb2)
    have Q2 := Lib.hid ((HQ0.out.trans (HB1.out.mono HQ0.out.size)).trans (hb2.mono (Nat.le_trans HQ0.out.size HB1.out.size)))
    have hlt : w.heap.size < w2.heap.size := B0.out.lt
    have n8 : ¬ w.heap.size = w2.heap.size := by omega
    have n8' : ¬ w2.heap.size = w.heap.size := by omega
    clear hb2
    cases hg : recGet s with
    | none =>
      have HT : Hid (tellsO (D.view a) = none) := by rw [Hid, HTV.out]; unfold tellsB; rw [hg]
      unfold rgetV recV
      have B0a := B0.out.alloc (.cells #[.int .u64 ((0 : Nat) : Int), .string (st [])] 131)
      have c0 : (w2.alloc (.cells #[.int .u64 ((0 : Nat) : Int), .string (st [])] 131)).cell? ⟨w.heap.size, 0, none⟩ = some (.int .u64 0) := B0a.cell 0
      have c1 : (w2.alloc (.cells #[.int .u64 ((0 : Nat) : Int), .string (st [])] 131)).cell? ⟨w.heap.size, 1, none⟩ = some (.string ⟨#[]⟩) := B0a.cell 1
      have cf0 : (w2.alloc (.cells #[.int .u64 ((0 : Nat) : Int), .string (st [])] 131)).frozen? ⟨w.heap.size, 0, none⟩ = false := B0a.free 0
      have cf1 : (w2.alloc (.cells #[.int .u64 ((0 : Nat) : Int), .string (st [])] 131)).frozen? ⟨w.heap.size, 1, none⟩ = false := B0a.free 1
      have B8 := Blk.new w2 131 #[.int .u64 ((0 : Nat) : Int), .string (st [])]
      have d0 : (w2.alloc (.cells #[.int .u64 ((0 : Nat) : Int), .string (st [])] 131)).cell? ⟨w2.heap.size, 0, none⟩ = some (.int .u64 ((0 : Nat) : Int)) := B8.cell 0
      have d1 : (w2.alloc (.cells #[.int .u64 ((0 : Nat) : Int), .string (st [])] 131)).cell? ⟨w2.heap.size, 1, none⟩ = some (.string (st [])) := B8.cell 1
      have df0 : (w2.alloc (.cells #[.int .u64 ((0 : Nat) : Int), .string (st [])] 131)).frozen? ⟨w2.heap.size, 0, none⟩ = false := B8.free 0
      have df1 : (w2.alloc (.cells #[.int .u64 ((0 : Nat) : Int), .string (st [])] 131)).frozen? ⟨w2.heap.size, 1, none⟩ = false := B8.free 1
      have BW := Lib.hid B0a
      have QW := Lib.hid (Q2.out.alloc Q2.out.size (.cells #[.int .u64 ((0 : Nat) : Int), .string (st [])] 131))
      clear B0a B8 hg
      go_wp2_with fail
      generalize hW : w2.alloc _ = W at *
      go_region
      go_wp2_with fail
      refine bodyPost_ret (results_cell2 rfl _ _ w.heap.size rfl (tl_blk BW.out _ _) recTy) rfl ?_
      exact tl_none (0, []) HT.out (tl_below QW.out (Nat.le_refl _) _ _)
    | some x =>
      obtain ⟨⟨q, t⟩, n⟩ := x
      unfold rgetV recV
      have HN : Hid (tellsO (D.view a) = if n = s.length ∧ 0 < q then some (q, t) else none) := by rw [Hid, HTV.out]; unfold tellsB; rw [hg]
      have B0a := B0.out.alloc (.cells #[.int .u64 (q : Int), .string (st t)] 131)
      have c0 : (w2.alloc (.cells #[.int .u64 (q : Int), .string (st t)] 131)).cell? ⟨w.heap.size, 0, none⟩ = some (.int .u64 0) := B0a.cell 0
      have c1 : (w2.alloc (.cells #[.int .u64 (q : Int), .string (st t)] 131)).cell? ⟨w.heap.size, 1, none⟩ = some (.string ⟨#[]⟩) := B0a.cell 1
      have cf0 : (w2.alloc (.cells #[.int .u64 (q : Int), .string (st t)] 131)).frozen? ⟨w.heap.size, 0, none⟩ = false := B0a.free 0
      have cf1 : (w2.alloc (.cells #[.int .u64 (q : Int), .string (st t)] 131)).frozen? ⟨w.heap.size, 1, none⟩ = false := B0a.free 1
      have B8 := Blk.new w2 131 #[.int .u64 (q : Int), .string (st t)]
      have d0 : (w2.alloc (.cells #[.int .u64 (q : Int), .string (st t)] 131)).cell? ⟨w2.heap.size, 0, none⟩ = some (.int .u64 (q : Int)) := B8.cell 0
      have d1 : (w2.alloc (.cells #[.int .u64 (q : Int), .string (st t)] 131)).cell? ⟨w2.heap.size, 1, none⟩ = some (.string (st t)) := B8.cell 1
      have df0 : (w2.alloc (.cells #[.int .u64 (q : Int), .string (st t)] 131)).frozen? ⟨w2.heap.size, 0, none⟩ = false := B8.free 0
      have df1 : (w2.alloc (.cells #[.int .u64 (q : Int), .string (st t)] 131)).frozen? ⟨w2.heap.size, 1, none⟩ = false := B8.free 1
      have BW := Lib.hid B0a
      have QW := Lib.hid (Q2.out.alloc Q2.out.size (.cells #[.int .u64 (q : Int), .string (st t)] 131))
      clear B0a B8 hg
      by_cases hns : n = s.length
      · subst hns
        by_cases hq : 0 < q
        · have HT : Hid (tellsO (D.view a) = some (q, t)) := by rw [Hid, HN.out, if_pos ⟨rfl, hq⟩]
          have hqi : (0 : Int) < (q : Int) := by omega
          have hqd : decide (0 < q) = true := by simpa using hq
          clear hq
          go_wp2_with fail
          generalize hW : w2.alloc _ = W at *
          go_region
          go_wp2_with fail
          refine bodyPost_ret (results_cell2 rfl _ _ w.heap.size rfl (tl_blk BW.out _ _) recTy) rfl ?_
          exact tl_some (q, t) HT.out (tl_below QW.out (Nat.le_refl _) _ _)
        · obtain rfl : q = 0 := by omega
          have HT : Hid (tellsO (D.view a) = none) := by rw [Hid, HN.out, if_neg (by omega)]
          clear hq
          go_wp2_with fail
          generalize hW : w2.alloc _ = W at *
          go_region
          go_wp2_with fail
          refine bodyPost_ret (results_cell2 rfl _ _ w.heap.size rfl (tl_blk BW.out _ _) recTy) rfl ?_
          exact tl_none (0, t) HT.out (tl_below QW.out (Nat.le_refl _) _ _)
      · have HT : Hid (tellsO (D.view a) = none) := by rw [Hid, HN.out, if_neg (fun h => hns h.1)]
        have hnb : ((n : Int) == (s.length : Int)) = false := by simp; omega
        clear hns
        go_wp2_with fail
        generalize hW : w2.alloc _ = W at *
        go_region
        go_wp2_with fail
        refine bodyPost_ret (results_cell2 rfl _ _ w.heap.size rfl (tl_blk BW.out _ _) recTy) rfl ?_
        exact tl_none (q, t) HT.out (tl_below QW.out (Nat.le_refl _) _ _)
end Go.Proofs.YthbhkdhljlganaaGreatDoor

namespace Go.Proofs.YthbhkdhljlganaaGreatDoor
open Go Go.RowKit
set_option linter.unusedVariables false

/-- Behind i sectors. -/
def mtUp (f : SF) (a : Int) : Nat → Nat × Int × List UInt8
  | 0 => (0, 1, [])
  | i + 1 => mtStep f a (mtUp f a i) (i : Int)
theorem mtOpen_eq (f : SF) (a : Int) : mtOpen f a = mtUp f a 2 := rfl
theorem mtStep_eq (f : SF) (a : Int) (x : Nat × Int × List UInt8) (i : Int) : mtStep f a x i = match tellsO (f (a + i)) with | some (q, t) => if x.1 < q then (q, i, t) else x | none => x := by
  unfold mtStep tellsO
  cases f (a + i) with
  | none => rfl
  | some s => rfl
/-- The meta page in memory. -/
structure Mk (w : World) (g : Nat) (h : Zn) (a : Int) (num : Nat) (last : Int) : Prop where
  blk : Blk w g 151 #[.pointer (some ⟨h.g, 0, none⟩), .int .i64 a, .int .u64 (num : Int), .int .i64 last]
structure MbSt (w wr : World) (h : Zn) (a : Int) (x : Nat × Int × List UInt8) : Prop where
  blk : Blk wr w.heap.size 151 #[.pointer (some ⟨h.g, 0, none⟩), .int .i64 a, .int .u64 (x.1 : Int), .int .i64 x.2.1]
  below : Below w.heap.size w wr
theorem MbSt.to {w wr w' : World} {h : Zn} {a : Int} {x : Nat × Int × List UInt8} (s : MbSt w wr h a x) (hb : Below wr.heap.size wr w') : MbSt w w' h a x := ⟨s.blk.later hb, s.below.trans (hb.mono s.below.size)⟩
theorem mb_put {w W : World} {h : Zn} {a : Int} {x : Nat × Int × List UInt8} (s : MbSt w W h a x) (n : Nat) {q : Nat} {i : Int} {t : List UInt8} :
    MbSt w (((W.drewN n).setCell ⟨w.heap.size, 2, none⟩ (.int .u64 (q : Int))).setCell ⟨w.heap.size, 3, none⟩ (.int .i64 i)).drew h a (q, i, t) := by
  have s2 := s.to (below_drewN (Below.refl _ _) n)
  exact ⟨(s2.blk.put 2 (.int .u64 (q : Int))).put 3 (.int .i64 i), ((s2.below.setCell (p := ⟨w.heap.size, 2, none⟩) (Nat.le_refl _) _).setCell (p := ⟨w.heap.size, 3, none⟩) (Nat.le_refl _) _).drew⟩
/-- What Open answers. -/
def MoPost (h : Zn) (D : Dsk) (a : Int) (w : World) (e : Ending) (w' : World) : Prop :=
  ∃ g, e = .returned (.tuple #[.pointer (some ⟨g, 0, none⟩), .string (st (mtOpen D.view a).2.2), .int .i64 (mtErr (mtOpen D.view a) : Nat)]) ∧
    Mk w' g h a (mtOpen D.view a).1 (mtOpen D.view a).2.1 ∧ w.heap.size ≤ g ∧ Below w.heap.size w w'
theorem mtUp_empty (f : SF) (a : Int) : ∀ i, (mtUp f a i).1 = 0 → (mtUp f a i).2.2 = []
  | 0, _ => rfl
  | i + 1, h => by
    have ih := mtUp_empty f a i
    rw [mtUp, mtStep_eq] at h ⊢
    cases ht : tellsO (f (a + (i : Int))) with
    | none => rw [ht] at h; exact ih h
    | some x =>
      obtain ⟨q, t⟩ := x
      rw [ht] at h
      simp only at h ⊢
      by_cases hq : (mtUp f a i).1 < q
      · rw [if_pos hq] at h
        simp only at h
        omega
      · rw [if_neg hq] at h ⊢
        exact ih h
theorem mo_fin {h : Zn} {D : Dsk} {a : Int} {w wr : World} {b : List UInt8} {n : Nat} (s : MbSt w wr h a (mtUp D.view a 2)) (hb : (mtUp D.view a 2).2.2 = b) (hn : mtErr (mtUp D.view a 2) = n) {ev : Int} (he : ev = (n : Int)) :
    MoPost h D a w (.returned (.tuple #[.pointer (some ⟨w.heap.size, 0, none⟩), .string (st b), .int .i64 ev])) wr := by
  subst hb hn he
  exact ⟨w.heap.size, rfl, ⟨s.blk⟩, Nat.le_refl _, s.below⟩

set_option maxHeartbeats 1000000 in
theorem mopen_bad (v : Value) (a : Int) (w : World) (h : a < 0 ∨ 65534 < a) :
    Calls Tryz.prog 34 #[v, .int .i64 a] w fun e w' => e = .returned (.tuple #[.pointer none, .string (st []), .int .i64 122]) ∧ w = w' := by
  rcases Decidable.em (a < 0) with h0 | h0
  case' inl => have hx := h0
  case' inr => have hx : 65534 < a := h.resolve_left h0
  all_goals
    clear h
    go_enter Tryz.func34, Tryz.ntmps34
    go_wp2_with fail
    go_ret3
    exact ⟨rfl, rfl⟩

set_option maxHeartbeats 4000000 in
set_option maxRecDepth 100000 in
theorem mopen_any (h : Zn) (D : Dsk) (a : Int) (w : World) (hd : Dk w h D) (hok : D.Ok) (h0 : 0 ≤ a) (h1 : a ≤ 65534) :
    Calls Tryz.prog 34 #[.pointer (some ⟨h.g, 0, none⟩), .int .i64 a] w (MoPost h D a w) := by
  have HD := Lib.hid hd
  have HOK := Lib.hid hok
  have n0 : ¬ a < 0 := by omega
  have n1 : ¬ 65534 < a := by omega
  have S0 : Hid (MbSt w (w.alloc (.cells #[.pointer (some ⟨h.g, 0, none⟩), .int .i64 a, .int .u64 0, .int .i64 1] 151)) h a (mtUp D.view a 0)) := ⟨Blk.new _ _ _, (Below.refl _ _).alloc (Nat.le_refl _) _⟩
  clear hd hok
  go_enter Tryz.func34, Tryz.ntmps34
  go_wp2_with fail
  go_loopw [8, 22] (fun bv iv wr => ∃ i : Nat, iv = .int .i64 (i : Int) ∧ i ≤ 2 ∧ bv = .string (st (mtUp D.view a i).2.2) ∧ Hid (MbSt w wr h a (mtUp D.view a i))) (fun _ iv _ => 2 - (intOf iv).toNat)
  case atStart => exact ⟨0, rfl, by omega, rfl, S0⟩
  case round =>
    clear S0
    obtain ⟨i, rfl, hi, rfl, HST⟩ := hrel
    by_cases hil : i < 2
    · have hai : InI (a + (i : Int)) := by unfold InI; omega
      have HUP : Hid (mtUp D.view a (i + 1) = mtStep D.view a (mtUp D.view a i) (i : Int)) := rfl
      obtain ⟨x, hx⟩ : ∃ x, mtUp D.view a i = x := ⟨_, rfl⟩
      rw [hx] at HUP HST
      rw [hx]
      obtain ⟨num, last, body⟩ := x
      clear hx
      go_wp2_with fail
      refine (mtells_any h D _ _ (HD.out.later HST.out.below) HOK.out hai).mono ?_
      rintro e w1 ⟨⟨q, t⟩, ok, rfl, ht, hb1⟩
      have s1 := HST.out.to hb1
      have HS2 := Lib.hid (s1.to ((Below.refl _ _).alloc (Nat.le_refl _) (.cells #[.int .u64 (q : Int), .string (st t)] 131)))
      have B8 := Blk.new w1 131 #[.int .u64 (q : Int), .string (st t)]
      have d0 : (w1.alloc (.cells #[.int .u64 (q : Int), .string (st t)] 131)).cell? ⟨w1.heap.size, 0, none⟩ = some (.int .u64 (q : Int)) := B8.cell 0
      have d1 : (w1.alloc (.cells #[.int .u64 (q : Int), .string (st t)] 131)).cell? ⟨w1.heap.size, 1, none⟩ = some (.string (st t)) := B8.cell 1
      have df0 : (w1.alloc (.cells #[.int .u64 (q : Int), .string (st t)] 131)).frozen? ⟨w1.heap.size, 0, none⟩ = false := B8.free 0
      have df1 : (w1.alloc (.cells #[.int .u64 (q : Int), .string (st t)] 131)).frozen? ⟨w1.heap.size, 1, none⟩ = false := B8.free 1
      have m0 : (w1.alloc (.cells #[.int .u64 (q : Int), .string (st t)] 131)).cell? ⟨w.heap.size, 0, none⟩ = some (.pointer (some ⟨h.g, 0, none⟩)) := HS2.out.blk.cell 0
      have m1 : (w1.alloc (.cells #[.int .u64 (q : Int), .string (st t)] 131)).cell? ⟨w.heap.size, 1, none⟩ = some (.int .i64 a) := HS2.out.blk.cell 1
      have m2 : (w1.alloc (.cells #[.int .u64 (q : Int), .string (st t)] 131)).cell? ⟨w.heap.size, 2, none⟩ = some (.int .u64 (num : Int)) := HS2.out.blk.cell 2
      have m3 : (w1.alloc (.cells #[.int .u64 (q : Int), .string (st t)] 131)).cell? ⟨w.heap.size, 3, none⟩ = some (.int .i64 last) := HS2.out.blk.cell 3
      have mf0 : (w1.alloc (.cells #[.int .u64 (q : Int), .string (st t)] 131)).frozen? ⟨w.heap.size, 0, none⟩ = false := HS2.out.blk.free 0
      have mf1 : (w1.alloc (.cells #[.int .u64 (q : Int), .string (st t)] 131)).frozen? ⟨w.heap.size, 1, none⟩ = false := HS2.out.blk.free 1
      have mf2 : (w1.alloc (.cells #[.int .u64 (q : Int), .string (st t)] 131)).frozen? ⟨w.heap.size, 2, none⟩ = false := HS2.out.blk.free 2
      have mf3 : (w1.alloc (.cells #[.int .u64 (q : Int), .string (st t)] 131)).frozen? ⟨w.heap.size, 3, none⟩ = false := HS2.out.blk.free 3
      have hlt : w.heap.size < w1.heap.size := s1.blk.lt
      have n8 : ¬ w.heap.size = w1.heap.size := by omega
      have n8' : ¬ w1.heap.size = w.heap.size := by omega
      have HT := Lib.hid ht
      clear B8 s1 hb1 ht
      unfold recV
      cases ok with
      | false =>
        have HU : Hid (mtUp D.view a (i + 1) = (num, last, body)) := by rw [Hid, HUP.out, mtStep_eq, HT.out]; rfl
        go_wp2_with fail
        generalize hW : w1.alloc _ = W at *
        go_quiet (fail)
        go_wp2_with fail
        go_roundw
        case rel => exact ⟨i + 1, by go_num, by omega, by rw [HU.out], by rw [HU.out]; exact HS2.out.to (below_drewN (Below.refl _ _) _)⟩
        case measure => simp [intOf]; omega
      | true =>
        by_cases hq : num < q
        · have HU : Hid (mtUp D.view a (i + 1) = (q, (i : Int), t)) := by rw [Hid, HUP.out, mtStep_eq, HT.out]; simp [hq]
          have hqd : decide (num < q) = true := by simpa using hq
          clear hq
          go_wp2_with fail
          generalize hW : w1.alloc _ = W at *
          go_quiet (fail)
          go_wp2_with fail
          go_region
          go_wp2_with fail
          go_roundw
          case rel => exact ⟨i + 1, by go_num, by omega, by rw [HU.out], by rw [HU.out]; exact mb_put HS2.out nq⟩
          case measure => simp [intOf]; omega
        · have HU : Hid (mtUp D.view a (i + 1) = (num, last, body)) := by rw [Hid, HUP.out, mtStep_eq, HT.out]; simp [hq]
          have hqd : decide (num < q) = false := by simpa using hq
          clear hq
          go_wp2_with fail
          generalize hW : w1.alloc _ = W at *
          go_quiet (fail)
          go_wp2_with fail
          go_roundw
          case rel => exact ⟨i + 1, by go_num, by omega, by rw [HU.out], by rw [HU.out]; exact HS2.out.to (below_drewN (Below.refl _ _) _)⟩
          case measure => simp [intOf]; omega
    · obtain rfl : i = 2 := by omega
      have HE := mtUp_empty D.view a 2
      obtain ⟨x, hx⟩ : ∃ x, mtUp D.view a 2 = x := ⟨_, rfl⟩
      have HX := Lib.hid hx
      rw [hx] at HE HST ⊢
      obtain ⟨num, last, body⟩ := x
      simp only at HE HST
      have m0 : (wr).cell? ⟨w.heap.size, 0, none⟩ = some (.pointer (some ⟨h.g, 0, none⟩)) := HST.out.blk.cell 0
      have m1 : (wr).cell? ⟨w.heap.size, 1, none⟩ = some (.int .i64 a) := HST.out.blk.cell 1
      have m2 : (wr).cell? ⟨w.heap.size, 2, none⟩ = some (.int .u64 (num : Int)) := HST.out.blk.cell 2
      have m3 : (wr).cell? ⟨w.heap.size, 3, none⟩ = some (.int .i64 last) := HST.out.blk.cell 3
      have mf0 : (wr).frozen? ⟨w.heap.size, 0, none⟩ = false := HST.out.blk.free 0
      have mf1 : (wr).frozen? ⟨w.heap.size, 1, none⟩ = false := HST.out.blk.free 1
      have mf2 : (wr).frozen? ⟨w.heap.size, 2, none⟩ = false := HST.out.blk.free 2
      have mf3 : (wr).frozen? ⟨w.heap.size, 3, none⟩ = false := HST.out.blk.free 3
      have HEE := Lib.hid HE
      clear HE hx
      by_cases hn0 : num = 0
      · subst hn0
        go_wp2_with fail
        go_ret3
        exact mo_fin (by rw [HX.out]; exact HST.out) (by rw [HX.out]; exact HEE.out (by trivial)) (by rw [HX.out]; rfl) rfl
      · have hnb : ((num : Int) == 0) = false := by simp; omega
        go_wp2_with fail
        go_ret3
        exact mo_fin (by rw [HX.out]; exact HST.out) (by rw [HX.out]) (by rw [HX.out]; exact if_neg hn0) rfl
end Go.Proofs.YthbhkdhljlganaaGreatDoor

namespace Go.Proofs.YthbhkdhljlganaaGreatDoor
open Go Go.RowKit
set_option linter.unusedVariables false

end Go.Proofs.YthbhkdhljlganaaGreatDoor

namespace Go.Proofs.YthbhkdhljlganaaGreatDoor
open Go Go.RowKit
set_option linter.unusedVariables false

section
variable {D : Dsk} {a : Int} {num : Nat} {last : Int} {body : List UInt8} {k : Int}
end
/-- A block of yet another kind turned. -/
theorem Dk.other {w w' : World} {h : Zn} {D : Dsk} (d : Dk w h D) {z : Nat} {t : TypeId} (hz : kindAt w z = some (some t)) (ht : t ∉ [76, 124, 3, 31, 5]) (hg : w.grownBy w' (some z)) : Dk w' h D := by
  simp only [List.mem_cons, List.not_mem_nil, or_false, not_or] at ht
  obtain ⟨t1, t2, t3, t4, t5⟩ := ht
  obtain ⟨vs, h1, h2⟩ := d.pend
  have ne : ∀ {b : Nat} {k : Option TypeId}, kindAt w b = some k → k ≠ some t → b ≠ z := fun hb hk e => by subst e; rw [hz] at hb; injection hb with hb; exact hk hb.symm
  refine ⟨d.blk.grown hg (fun e => ?_), d.view.other (ne d.view.kind (by simp)) (by rw [hz]; simpa using t5) hg, d.ground.other (ne d.ground.kind (by simp)) (by rw [hz]; simpa using t5) hg, d.ne, vs, h1.other (fun e => ?_) hg, h2.keep fun v p hp => hp.other (fun s hs => ?_) hg⟩
  · injection e with e
    subst e
    have := kind_blk d.blk
    rw [hz] at this
    injection this with this
    injection this with this
    exact t1 this
  · have := kind_own h1 e
    rw [hz] at this
    injection this with this
    injection this with this
    exact t2 this
  · rw [hz]
    intro e
    injection e with e
    injection e with e
    subst e
    simp only [pnKinds, List.mem_cons, List.not_mem_nil, or_false] at hs
    rcases hs with h | h | h
    · exact t3 h
    · exact t4 h
    · exact t5 h
theorem Mk.later {w w' : World} {g : Nat} {h : Zn} {a : Int} {num : Nat} {last : Int} (m : Mk w g h a num last) (hb : Below w.heap.size w w') : Mk w' g h a num last := ⟨m.blk.later hb⟩
end Go.Proofs.YthbhkdhljlganaaGreatDoor

namespace Go.Proofs.YthbhkdhljlganaaGreatDoor
open Go
set_option linter.unusedVariables false

theorem tellsB_pos {s : List UInt8} {q : Nat} {t : List UInt8} (h : tellsB s = some (q, t)) : 0 < q := by
  unfold tellsB at h
  split at h
  · split at h
    · rename_i hc
      injection h with h
      injection h with h1 h2
      omega
    · cases h
  · cases h
theorem tellsO_pos {o : Option (List UInt8)} {q : Nat} {t : List UInt8} (h : tellsO o = some (q, t)) : 0 < q := by
  cases o with
  | none => cases h
  | some s => exact tellsB_pos h
/-- What the page tells: two sectors alone are in use. -/
structure Mi (f : SF) (a : Int) (num : Nat) (last : Int) (body : List UInt8) : Prop where
  only : ∀ x, (f x).isSome = true → x = a ∨ x = a + 1
  l01 : last = 0 ∨ last = 1
  zero : num = 0 → last = 1 ∧ body = [] ∧ tellsO (f (a + last)) = none ∧ tellsO (f (a + (1 - last))) = none
  pos : 0 < num → tellsO (f (a + last)) = some (num, body) ∧ ∀ q t, tellsO (f (a + (1 - last))) = some (q, t) → q < num
section
variable {f : SF} {a : Int} {num : Nat} {last : Int} {body : List UInt8}
theorem Mi.start (a : Int) : Mi (fun _ => none) a 0 1 [] := ⟨fun _ h => (by cases h), .inr rfl, fun _ => ⟨rfl, rfl, rfl, rfl⟩, fun h => absurd h (by omega)⟩
theorem Mi.open (h : Mi f a num last body) : mtOpen f a = (num, last, body) := by
  rw [mtOpen_eq, mtUp, mtUp, mtUp, mtStep_eq, mtStep_eq]
  rw [show a + ((0 : Nat) : Int) = a + 0 by simp, show a + ((0 + 1 : Nat) : Int) = a + 1 by simp]
  rcases Nat.eq_zero_or_pos num with h0 | h0
  · obtain ⟨rfl, rfl, h1, h2⟩ := h.zero h0
    rw [show a + (1 - 1 : Int) = a + 0 by omega] at h2
    rw [h1, h2]
    subst h0
    rfl
  · obtain ⟨h1, h2⟩ := h.pos h0
    rcases h.l01 with rfl | rfl
    · rw [show a + (1 - 0 : Int) = a + 1 by omega] at h2
      rw [h1]
      simp only
      rw [if_pos h0]
      cases ht : tellsO (f (a + 1)) with
      | none => rfl
      | some y =>
        obtain ⟨q, t⟩ := y
        have := h2 q t ht
        simp only
        rw [if_neg (by omega)]
        rfl
    · rw [show a + (1 - 1 : Int) = a + 0 by omega] at h2
      rw [h1]
      cases ht : tellsO (f (a + 0)) with
      | none => simp only; rw [if_pos h0]; rfl
      | some y =>
        obtain ⟨q, t⟩ := y
        have h3 := h2 q t ht
        have h4 := tellsO_pos ht
        simp only
        rw [if_pos h4]
        simp only
        rw [if_pos h3]
        rfl
end
section
variable {D : Dsk} {a : Int} {num : Nat} {last : Int} {body t : List UInt8}
end
end Go.Proofs.YthbhkdhljlganaaGreatDoor

namespace Go.Proofs.YthbhkdhljlganaaGreatDoor
open Go
set_option linter.unusedVariables false

/-- The number of some flags, the first the lowest bit. -/
def wordL : List Bool → Nat
  | [] => 0
  | b :: l => b.toNat + 2 * wordL l
theorem wordL_bit : ∀ (l : List Bool) (k : Nat), (wordL l).testBit k = l.getD k false
  | [], k => by simp [wordL]
  | b :: l, 0 => by
    rw [wordL, Nat.testBit_zero]
    cases b <;> simp <;> omega
  | b :: l, k + 1 => by
    rw [wordL, Nat.testBit_succ, show (b.toNat + 2 * wordL l) / 2 = wordL l by cases b <;> simp <;> omega]
    exact wordL_bit l k
theorem wordL_lt : ∀ (l : List Bool), wordL l < 2 ^ l.length
  | [] => by simp [wordL]
  | b :: l => by
    have := wordL_lt l
    rw [wordL, List.length_cons, Nat.pow_succ]
    cases b <;> simp <;> omega
theorem wordL_lt64 {l : List Bool} (h : l.length ≤ 64) : wordL l < 18446744073709551616 :=
  Nat.lt_of_lt_of_le (wordL_lt l) (Nat.pow_le_pow_right (by omega) h : 2 ^ l.length ≤ 2 ^ 64)
end Go.Proofs.YthbhkdhljlganaaGreatDoor

namespace Go.Proofs.YthbhkdhljlganaaGreatDoor
open Go Go.RowKit
set_option linter.unusedVariables false

/-- Word i of a space. -/
def wordAt (l : List Bool) (i : Nat) : Nat := wordL ((l.drop (64 * i)).take 64)
theorem wordAt_lt (l : List Bool) (i : Nat) : wordAt l i < 18446744073709551616 := wordL_lt64 (by rw [List.length_take]; omega)
theorem wordAt_bit (l : List Bool) (i j : Nat) (hj : j < 64) : (wordAt l i).testBit j = l.getD (64 * i + j) false := by
  unfold wordAt
  rw [wordL_bit, List.getD_eq_getElem?_getD, List.getD_eq_getElem?_getD, List.getElem?_take, if_pos hj, List.getElem?_drop]
/-- The cells of a space. -/
def spC (l : List Bool) : Array Value := #[.int .i64 (l.length : Int), .int .u64 (wordAt l 0 : Int), .int .u64 (wordAt l 1 : Int), .int .u64 (wordAt l 2 : Int), .int .u64 (wordAt l 3 : Int)]
theorem spC_word (l : List Bool) (i : Nat) (h : i < 4) : (spC l)[1 + i]? = some (.int .u64 (wordAt l i : Int)) := by
  match i, h with
  | 0, _ | 1, _ | 2, _ | 3, _ => rfl
/-- A flag turned. -/
def flipAt (l : List Bool) (k : Nat) : List Bool := l.set k (!(l.getD k false))
theorem flipAt_length (l : List Bool) (k : Nat) : (flipAt l k).length = l.length := by simp [flipAt]
theorem wordAt_flip (l : List Bool) (k : Nat) (hk : k < l.length) : wordAt l (k / 64) ^^^ 2 ^ (k % 64) = wordAt (flipAt l k) (k / 64) := by
  apply Nat.eq_of_testBit_eq
  intro j
  rw [Nat.testBit_xor, Nat.testBit_two_pow]
  by_cases hj : j < 64
  · rw [wordAt_bit _ _ _ hj, wordAt_bit _ _ _ hj]
    unfold flipAt
    by_cases h : k % 64 = j
    · have e : 64 * (k / 64) + j = k := by omega
      rw [e]
      simp [List.getD_eq_getElem?_getD, h, hk]
    · have e : k ≠ 64 * (k / 64) + j := by omega
      simp [List.getD_eq_getElem?_getD, h, e]
  · have hp : 2 ^ 64 ≤ 2 ^ j := Nat.pow_le_pow_right (by omega) (by omega)
    have h1 := wordAt_lt l (k / 64)
    have h2 := wordAt_lt (flipAt l k) (k / 64)
    rw [Nat.testBit_lt_two_pow (Nat.lt_of_lt_of_le h1 hp), Nat.testBit_lt_two_pow (Nat.lt_of_lt_of_le h2 hp)]
    have : ¬ k % 64 = j := by omega
    simp [this]
theorem wordAt_other (l : List Bool) (k i : Nat) (h : i ≠ k / 64) : wordAt (flipAt l k) i = wordAt l i := by
  apply Nat.eq_of_testBit_eq
  intro j
  by_cases hj : j < 64
  · rw [wordAt_bit _ _ _ hj, wordAt_bit _ _ _ hj]
    unfold flipAt
    have e : k ≠ 64 * i + j := by omega
    simp [List.getD_eq_getElem?_getD, e]
  · have hp : 2 ^ 64 ≤ 2 ^ j := Nat.pow_le_pow_right (by omega) (by omega)
    rw [Nat.testBit_lt_two_pow (Nat.lt_of_lt_of_le (wordAt_lt _ i) hp), Nat.testBit_lt_two_pow (Nat.lt_of_lt_of_le (wordAt_lt _ i) hp)]
theorem spC_flip (l : List Bool) (k : Nat) (hk : k < l.length) (h4 : k < 256) : (spC l).setIfInBounds (1 + k / 64) (.int .u64 ((wordAt l (k / 64) ^^^ 2 ^ (k % 64) : Nat) : Int)) = spC (flipAt l k) := by
  rw [wordAt_flip l k hk]
  have hlen := flipAt_length l k
  have hq : k / 64 = 0 ∨ k / 64 = 1 ∨ k / 64 = 2 ∨ k / 64 = 3 := by omega
  unfold spC
  rw [hlen]
  rcases hq with h | h | h | h <;> rw [h]
  · rw [wordAt_other l k 1 (by omega), wordAt_other l k 2 (by omega), wordAt_other l k 3 (by omega)]; rfl
  · rw [wordAt_other l k 0 (by omega), wordAt_other l k 2 (by omega), wordAt_other l k 3 (by omega)]; rfl
  · rw [wordAt_other l k 0 (by omega), wordAt_other l k 1 (by omega), wordAt_other l k 3 (by omega)]; rfl
  · rw [wordAt_other l k 0 (by omega), wordAt_other l k 1 (by omega), wordAt_other l k 2 (by omega)]; rfl
def hasB (l : List Bool) (p : Int) : Bool := decide (0 ≤ p) && decide (p < l.length) && l.getD p.toNat false
theorem hasB_nat (l : List Bool) (k : Nat) : hasB l k = l.getD k false := by
  unfold hasB
  by_cases h : k < l.length
  · simp [h]
  · simp [List.getD_eq_getElem?_getD, List.getElem?_eq_none (Nat.le_of_not_lt h)]
def claimB (l : List Bool) (p : Int) : List Bool × Nat := if p < 0 ∨ (l.length : Int) ≤ p ∨ hasB l p = true then (l, 92) else (flipAt l p.toNat, 0)
theorem claimB_len (l : List Bool) (p : Int) : (claimB l p).1.length = l.length := by
  unfold claimB; split <;> simp [flipAt_length]
end Go.Proofs.YthbhkdhljlganaaGreatDoor

namespace Go.Proofs.YthbhkdhljlganaaGreatDoor
open Go
set_option linter.unusedVariables false

/-- Tables: where a page is, how many bytes it has. -/
abbrev TF := Int → Option (Nat × Nat)
def TF.put (t : TF) (a : Int) (x : Nat × Nat) : TF := fun y => if y = a then some x else t y
/-- Which of the pages 0 to 89 are there. -/
def idsOf {α : Type} (f : Int → Option α) : List Nat := (List.range 90).filter fun i => (f (i : Int)).isSome
/-- Only pages 0 to 89 are there. -/
def In90 {α : Type} (f : Int → Option α) : Prop := ∀ x, (f x).isSome = true → 0 ≤ x ∧ x < 90
/-- A pager: its disk, where it is, the meta page, the table as it was committed, what was written since, what was given back. -/
structure Pgr where
  D : Dsk
  a : Int
  n : Nat
  num : Nat
  last : Int
  tag : Nat
  tb : TF
  wr : SF
  gn : Int → Bool
def Pgr.has (P : Pgr) (x : Int) : Bool := (P.wr x).isSome || ((P.tb x).isSome && !P.gn x)
def Pgr.pages (P : Pgr) : List Nat := (List.range 90).filter fun i => P.has (i : Int)
def pgWhy (x : Int) (b : List UInt8) : Nat := if x < 0 ∨ 90 ≤ x then 131 else if 2048 < b.length then 132 else 0
def gnPut (g : Int → Bool) (x : Int) (v : Bool) : Int → Bool := fun y => if y = x then v else g y
def Pgr.put (P : Pgr) (x : Int) (b : List UInt8) : Pgr := { P with wr := P.wr.put x b, gn := gnPut P.gn x false }
def Pgr.write (P : Pgr) (x : Int) (b : List UInt8) : Pgr := if pgWhy x b = 0 then P.put x b else P
def Pgr.free (P : Pgr) (x : Int) : Pgr := if P.has x then { P with wr := P.wr.del x, gn := gnPut P.gn x true } else P
def Pgr.least (P : Pgr) : Option Nat := (List.range 90).find? fun i => !P.has (i : Int)
def Pgr.alloc (P : Pgr) (b : List UInt8) : Pgr × Nat × Nat := if 2048 < b.length then (P, 0, 132) else match P.least with
  | some i => (P.put (i : Int) b, i, 0)
  | none => (P, 0, 133)
def rowB (t : TF) (i : Nat) : List UInt8 := varB i ++ (varB ((t (i : Int)).getD (0, 0)).1 ++ varB ((t (i : Int)).getD (0, 0)).2)
/-- What the meta page is to tell. -/
def tellsT (tag : Nat) (t : TF) : List UInt8 := varB tag ++ (varB (idsOf t).length ++ (idsOf t).flatMap (rowB t))

/-! ### The steps -/
def chunk (b : List UInt8) (k : Nat) : List UInt8 := (b.drop (512 * k)).take 512
def secAt (a : Int) (p : Nat) : Int := a + 2 + 4 * (p : Int)
structure PcSt where
  rest : List UInt8
  err : Nat
  last : Int
  used : List Bool
  t : TF
def pcOne (n : Nat) (s : PcSt) : Option PcSt :=
  let x := rdCount s.rest s.err 89
  let y := rdCount x.2.1 x.2.2 ((n : Int) - 1)
  let z := rdCount y.2.1 y.2.2 2048
  if (rdEnd z.2.1 z.2.2 ≠ 0 ∧ rdEnd z.2.1 z.2.2 ≠ 31) ∨ (x.1 : Int) ≤ s.last ∨ (claimB s.used (y.1 : Int)).2 ≠ 0 then none
  else some ⟨z.2.1, z.2.2, (x.1 : Int), (claimB s.used (y.1 : Int)).1, s.t.put (x.1 : Int) (y.1, z.1)⟩
def pcLoop (n : Nat) : Nat → PcSt → Option PcSt
  | 0, s => some s
  | k + 1, s => match pcOne n s with
    | some s' => pcLoop n k s'
    | none => none
def pcInit (n : Nat) (body : List UInt8) : PcSt :=
  ⟨(rdCount (rdNum body 0).2.1 (rdNum body 0).2.2 90).2.1, (rdCount (rdNum body 0).2.1 (rdNum body 0).2.2 90).2.2, -1, List.replicate n false, fun _ => none⟩
def pgParse (n : Nat) (body : List UInt8) : Option (Nat × TF) := match pcLoop n (rdCount (rdNum body 0).2.1 (rdNum body 0).2.2 90).1 (pcInit n body) with
  | some s => if rdEnd s.rest s.err = 0 then some ((rdNum body 0).1, s.t) else none
  | none => none
/-- The pager on a disk; or why there is none. -/
def pgNew (D : Dsk) (a : Int) (n : Nat) (num : Nat) (last : Int) (x : Nat × TF) : Pgr := ⟨D, a, n, num, last, x.1, x.2, fun _ => none, fun _ => false⟩
def pgOpen (D : Dsk) (a : Int) (n : Nat) : Option Pgr :=
  if (mtOpen D.view a).1 = 0 then some (pgNew D a n 0 (mtOpen D.view a).2.1 (0, fun _ => none))
  else (pgParse n (mtOpen D.view a).2.2).map (pgNew D a n (mtOpen D.view a).1 (mtOpen D.view a).2.1)
/-- Which places a pager may have. -/
def pgPl (a n : Int) : Prop := 2 ≤ n ∧ n ≤ 256 ∧ 0 ≤ a ∧ a ≤ 65534 - 4 * n
end Go.Proofs.YthbhkdhljlganaaGreatDoor

namespace Go.Proofs.YthbhkdhljlganaaGreatDoor
open Go
set_option linter.unusedVariables false

/-! ### A disk of which nothing is pending -/
structure Still (D : Dsk) : Prop where
  pend : D.pend = []
  ground : D.ground = D.view
  ng : D.ng = D.nv
  ok : D.Ok
  low : ∀ x, (D.view x).isSome = true → x < D.size
  lim : D.size ≤ D.limit
theorem Still.new {n : Int} (h : 1 ≤ n) (h2 : n ≤ 65536) : Still (Dsk.new n) := ⟨rfl, rfl, rfl, Dsk.Ok.new h h2, fun x h => (by cases h), Int.le_refl _⟩
section
variable {D D' : Dsk} {x : Int} {b : List UInt8}
variable {D0 : Dsk} {S : Int → Prop}
end

/-! ### The meta page's two sectors -/
def twoF (f : SF) (a : Int) : SF := fun x => if x = a ∨ x = a + 1 then f x else none
theorem twoF_open (f : SF) (a : Int) : mtOpen (twoF f a) a = mtOpen f a := by
  have e0 : twoF f a (a + 0) = f (a + 0) := if_pos (.inl (by omega))
  have e1 : twoF f a (a + 1) = f (a + 1) := if_pos (.inr rfl)
  unfold mtOpen
  simp only [mtStep_eq, e0, e1]
section
variable {D : Dsk} {a : Int} {num : Nat} {last : Int} {body t : List UInt8}
/-- What a meta page on this disk tells. -/
structure Mj (D : Dsk) (a : Int) (num : Nat) (last : Int) (body : List UInt8) : Prop where
  still : Still D
  mi : Mi (twoF D.view a) a num last body
  a0 : 0 ≤ a
  a1 : a + 1 < D.size
theorem Mj.open (h : Mj D a num last body) : mtOpen D.view a = (num, last, body) := by rw [← twoF_open]; exact h.mi.open
theorem Mj.start {D : Dsk} (h : Still D) (h0 : 0 ≤ a) (h1 : a + 1 < D.size) (hv : D.view a = none) (hv1 : D.view (a + 1) = none) : Mj D a 0 1 [] := by
  refine ⟨h, ?_, h0, h1⟩
  have : twoF D.view a = fun _ => none := by
    funext y
    unfold twoF
    split
    · rename_i e
      rcases e with rfl | rfl
      · exact hv
      · exact hv1
    · rfl
  rw [this]
  exact Mi.start a
end
end Go.Proofs.YthbhkdhljlganaaGreatDoor

namespace Go.Proofs.YthbhkdhljlganaaGreatDoor
open Go
set_option linter.unusedVariables false

theorem pgCount_put {x : Nat} {most : Int} (hx : x < U64) (hm : (x : Int) ≤ most) (s : List UInt8) : rdCount (varB x ++ s) 0 most = (x, s, 0) := by
  unfold rdCount
  rw [if_neg (by simp), getVarB_varB hx]
  simp only
  rw [if_neg (by omega), List.drop_left]
theorem rdEnd_nil : rdEnd [] 0 = 0 := rfl
theorem rdEnd_more (l : List UInt8) : ¬ (rdEnd l 0 ≠ 0 ∧ rdEnd l 0 ≠ 31) := by
  unfold rdEnd
  split <;> simp
theorem mem_ids {α : Type} {f : Int → Option α} {i : Nat} : i ∈ idsOf f ↔ i < 90 ∧ (f (i : Int)).isSome = true := by
  unfold idsOf
  rw [List.mem_filter, List.mem_range]
theorem ids_lt {α : Type} (f : Int → Option α) : (idsOf f).Pairwise (· < ·) := List.Pairwise.sublist List.filter_sublist List.pairwise_lt_range
theorem ids_le {α : Type} (f : Int → Option α) : (idsOf f).length ≤ 90 := by
  have := List.length_filter_le (fun i : Nat => (f (i : Int)).isSome) (List.range 90)
  rw [List.length_range] at this
  exact this

structure TbOk (n : Nat) (t : TF) : Prop where
  in90 : In90 t
  row : ∀ i p l, t i = some (p, l) → p < n ∧ l ≤ 2048
  one : ∀ i j p l l', t i = some (p, l) → t j = some (p, l') → i = j
theorem TbOk.none (n : Nat) : TbOk n (fun _ => none) := ⟨fun x h => (by cases h), fun i p l h => (by cases h), fun i j p l l' h => (by cases h)⟩

theorem claimB_free {u : List Bool} {p : Nat} (hp : p < u.length) (h0 : u.getD p false = false) : claimB u (p : Int) = (flipAt u p, 0) := by
  unfold claimB
  rw [if_neg]
  · rfl
  · rw [hasB_nat, h0]
    rintro (h | h | h)
    · omega
    · omega
    · cases h
theorem flip_get (u : List Bool) (p q : Nat) (h : q ≠ p) : (flipAt u p).getD q false = u.getD q false := by
  unfold flipAt
  simp [List.getD_eq_getElem?_getD, List.getElem?_set_ne (Ne.symm h)]
theorem pcLoop_rows {n : Nat} (hn : n ≤ 256) (t : TF) (ht : TbOk n t) : ∀ (r : List Nat) (last : Int) (u : List Bool) (t0 : TF), r.Pairwise (· < ·) → (∀ i ∈ r, last < (i : Int)) → (∀ i ∈ r, i < 90 ∧ (t (i : Int)).isSome = true) → u.length = n →
    (∀ i ∈ r, ∀ p l, t (i : Int) = some (p, l) → u.getD p false = false) →
    ∃ last' u', pcLoop n r.length ⟨r.flatMap (rowB t), 0, last, u, t0⟩ = some ⟨[], 0, last', u', fun x => if ∃ i ∈ r, x = ((i : Nat) : Int) then t x else t0 x⟩
  | [], last, u, t0, _, _, _, _, _ => ⟨last, u, by simp [pcLoop]⟩
  | i :: r, last, u, t0, hs, hl, hi, hu, hf => by
    obtain ⟨h90, hsome⟩ := hi i (by simp)
    obtain ⟨⟨p, l⟩, hpl⟩ := Option.isSome_iff_exists.1 hsome
    obtain ⟨hpn, hl2⟩ := ht.row _ p l hpl
    have hp0 := hf i (by simp) p l hpl
    have hlast := hl i (by simp)
    obtain ⟨hs1, hs2⟩ := List.pairwise_cons.1 hs
    have hrow : (i :: r).flatMap (rowB t) = varB i ++ (varB p ++ (varB l ++ r.flatMap (rowB t))) := by
      rw [List.flatMap_cons]
      unfold rowB
      rw [hpl]
      simp only [Option.getD_some, List.append_assoc]
    have hone : pcOne n ⟨(i :: r).flatMap (rowB t), 0, last, u, t0⟩ = some ⟨r.flatMap (rowB t), 0, (i : Int), flipAt u p, t0.put (i : Int) (p, l)⟩ := by
      unfold pcOne
      rw [hrow]
      simp only
      rw [pgCount_put (by unfold U64; omega) (by omega)]
      simp only
      rw [pgCount_put (by unfold U64; omega) (by omega)]
      simp only
      rw [pgCount_put (by unfold U64; omega) (by omega)]
      simp only
      rw [claimB_free (by omega) hp0, if_neg]
      rintro (h | h | h)
      · exact rdEnd_more _ h
      · omega
      · exact h rfl
    obtain ⟨last', u', hrec⟩ := pcLoop_rows hn t ht r (i : Int) (flipAt u p) (t0.put (i : Int) (p, l)) hs2 (fun j hj => by have := hs1 j hj; omega) (fun j hj => hi j (by simp [hj])) (by rw [flipAt_length, hu]) (fun j hj q m hq => by
      rw [flip_get u p q]
      · exact hf j (by simp [hj]) q m hq
      · rintro rfl
        have := ht.one _ _ _ _ _ hpl hq
        have := hs1 j hj
        omega)
    refine ⟨last', u', ?_⟩
    rw [List.length_cons]
    unfold pcLoop
    rw [hone]
    simp only
    rw [hrec]
    congr 1
    congr 1
    funext x
    by_cases h1 : ∃ j ∈ r, x = ((j : Nat) : Int)
    · rw [if_pos h1, if_pos]
      obtain ⟨j, hj, e⟩ := h1
      exact ⟨j, by simp [hj], e⟩
    · rw [if_neg h1]
      unfold TF.put
      by_cases h2 : x = (i : Int)
      · rw [if_pos h2, if_pos ⟨i, by simp, h2⟩, h2, hpl]
      · rw [if_neg h2, if_neg]
        rintro ⟨j, hj, e⟩
        rcases List.mem_cons.1 hj with rfl | hj
        · exact h2 e
        · exact h1 ⟨j, hj, e⟩
/-- What is told is parsed again. -/
theorem pgParse_tells {n tag : Nat} {t : TF} (hn : n ≤ 256) (ht : TbOk n t) (htag : tag < U64) : pgParse n (tellsT tag t) = some (tag, t) := by
  have h1 : rdNum (tellsT tag t) 0 = (tag, varB (idsOf t).length ++ (idsOf t).flatMap (rowB t), 0) := rdNum_put htag _
  have hle := ids_le t
  have h2 : rdCount (varB (idsOf t).length ++ (idsOf t).flatMap (rowB t)) 0 90 = ((idsOf t).length, (idsOf t).flatMap (rowB t), 0) := pgCount_put (by unfold U64; omega) (by omega) _
  obtain ⟨last', u', h3⟩ := pcLoop_rows hn t ht (idsOf t) (-1) (List.replicate n false) (fun _ => none) (ids_lt t) (fun i _ => by omega) (fun i hi => mem_ids.1 hi) (by simp) (fun i _ p l _ => by
    simp [List.getD_eq_getElem?_getD, List.getElem?_replicate]
    split <;> rfl)
  unfold pgParse pcInit
  rw [h1]
  simp only
  rw [h2]
  simp only
  rw [h3]
  simp only
  rw [rdEnd_nil, if_pos rfl]
  congr 2
  funext x
  by_cases hx : ∃ i ∈ idsOf t, x = ((i : Nat) : Int)
  · rw [if_pos hx]
  · rw [if_neg hx]
    cases hh : t x with
    | none => rfl
    | some y =>
      have h9 := ht.in90 x (by rw [hh]; rfl)
      exact absurd ⟨x.toNat, mem_ids.2 ⟨by omega, by rw [show ((x.toNat : Nat) : Int) = x by omega, hh]; rfl⟩, by omega⟩ hx
end Go.Proofs.YthbhkdhljlganaaGreatDoor

namespace Go.Proofs.YthbhkdhljlganaaGreatDoor
open Go
set_option linter.unusedVariables false

/-- What the meta page tells. -/
def tellB (num tag : Nat) (tb : TF) : List UInt8 := if num = 0 then [] else tellsT tag tb
/-- THE DISK KEEPS a table, and what its pages are. -/
structure Kp (D : Dsk) (a : Int) (n num : Nat) (last : Int) (tag : Nat) (tb : TF) (c : Int → List UInt8) : Prop where
  mj : Mj D a num last (tellB num tag tb)
  zero : num = 0 → tag = 0 ∧ tb = fun _ => none
  tok : TbOk n tb
  n2 : 2 ≤ n
  n256 : n ≤ 256
  fit : a + 2 + 4 * (n : Int) ≤ D.size
  cont : ∀ i p l, tb i = some (p, l) → (c i).length = l ∧ ∀ k : Nat, 512 * k < l → D.view (secAt a p + (k : Int)) = some (chunk (c i) k)
  tagU : tag < U64
section
variable {D D' : Dsk} {a : Int} {n num : Nat} {last : Int} {tag : Nat} {tb : TF} {c : Int → List UInt8}
theorem Kp.start (h : Still D) (hv : ∀ x, D.view x = none) (h0 : 0 ≤ a) (h2 : 2 ≤ n) (h256 : n ≤ 256) (hf : a + 2 + 4 * (n : Int) ≤ D.size) : Kp D a n 0 1 0 (fun _ => none) c :=
  ⟨Mj.start h h0 (by omega) (hv _) (hv _), fun _ => ⟨rfl, rfl⟩, TbOk.none n, h2, h256, hf, fun i p l h => (by cases h), by unfold U64; omega⟩
theorem Kp.open (h : Kp D a n num last tag tb c) : pgOpen D a n = some (pgNew D a n num last (tag, tb)) := by
  unfold pgOpen
  rw [h.mj.open]
  simp only
  by_cases h0 : num = 0
  · obtain ⟨rfl, rfl⟩ := h.zero h0
    rw [if_pos h0, h0]
  · rw [if_neg h0, tellB, if_neg h0, pgParse_tells h.n256 h.tok h.tagU]
    rfl
end
/-- A pager that lies well: what it keeps, what was written since. -/
structure Pk (P : Pgr) (c : Int → List UInt8) : Prop where
  kp : Kp P.D P.a P.n P.num P.last P.tag P.tb c
  w90 : In90 P.wr
  wlen : ∀ x b, P.wr x = some b → b.length ≤ 2048
  g90 : ∀ x, P.gn x = true → 0 ≤ x ∧ x < 90
section
variable {P : Pgr} {c : Int → List UInt8} {t : TF} {tag : Nat}
end
end Go.Proofs.YthbhkdhljlganaaGreatDoor

namespace Go.Proofs.YthbhkdhljlganaaGreatDoor
open Go Go.RowKit
set_option linter.unusedVariables false

end Go.Proofs.YthbhkdhljlganaaGreatDoor
