/- What the proof of PagePuts needs, part 17. -/
import Derived.Test.YtlidbgidbpaenaaDoorPagePutsJ15
import Derived.Test.YtlidbgidbpaenaaDoorPagePutsJ16
import Derived.Deep.RegionLaw

namespace Go.Proofs.YtlidbgidbpaenaaDoor
open Go Go.RowKit
set_option linter.unusedVariables false

/-- So many cells are taken. -/
def rdCells : Nat → List UInt8 × Nat → List Cel → List Cel × (List UInt8 × Nat)
  | 0, s, acc => (acc, s)
  | n + 1, s, acc => rdCells n (rdText (rdText s.1 s.2).2.1 (rdText s.1 s.2).2.2).2 (acc ++ [((rdText s.1 s.2).1, (rdText (rdText s.1 s.2).2.1 (rdText s.1 s.2).2.2).1)])
/-- The page of bytes' fields. -/
def pgIn (f : List UInt8) : Option (Bool × Nat × List Cel) :=
  match rdFlag f 0 with
  | (b, s1, e1) => match rdCount s1 e1 256 with
    | (n, s2, e2) => match rdCount s2 e2 2048 with
      | (c, s3, e3) => match rdCells c (s3, e3) [] with
        | (cs, s4, e4) => if rdEnd s4 e4 = 0 ∧ pgChk (n : Int) cs = 0 then some (b, n, cs) else none
def pgOfB (l : List UInt8) : Option (Bool × Nat × List Cel) := match openB l with
  | .error _ => none
  | .ok f => pgIn f
theorem openB_errs {l : List UInt8} {er : Nat} (h : openB l = .error er) : er = 20 ∨ er = 21 := by
  unfold openB at h
  split at h
  · cases h; exact .inl rfl
  · split at h
    · cases h
    · cases h; exact .inr rfl
theorem openB_lens {l f : List UInt8} (h : openB l = .ok f) {m : Nat} (hm : l.length ≤ m) : f.length ≤ m := by
  unfold openB at h
  split at h
  · cases h
  · split at h
    · cases h; rw [List.length_take]; omega
    · cases h
theorem own_beside {w w' : World} {B : Nat} {e : TypeId} {size n : Nat} {v : Value} {xs : List Value} (h : w.ownsRow B e size v n xs) {g : Nat} {t : TypeId} {cs : Array Value} (hb : Blk w g t cs) (hne : e ≠ t) (hg : w.grownBy w' (some g)) : w'.ownsRow B e size v n xs := by
  have hn := own_ne h hb hne
  obtain ⟨h1, h2⟩ := h
  refine ⟨h1, ?_⟩
  rcases h2 with h2 | ⟨g', cap, cur, hv, hB, hh, r⟩
  · exact .inl h2
  · refine .inr ⟨g', cap, cur, hv, hB, ?_, r⟩
    exact (hg.block g' (lt_of_block hh) (fun e => hn (by rw [hv]; simp [Value.ownBlock]; injection e))).trans hh
theorem Rd.blk {w : World} {g B : Nat} {l : List UInt8} {err : Nat} (h : Rd w g B l err) : ∃ cs, Blk w g 99 cs := by
  obtain ⟨A, k, c, h1, _⟩ := h
  exact ⟨_, h1⟩
theorem Co.beside {w w' : World} {B : Nat} {v : Value} {cs : List Cel} (h : Co w B v cs) {g B' : Nat} {l : List UInt8} {err : Nat} (hr : Rd w g B' l err) (hg : w.grownBy w' (some g)) : Co w' B v cs := by
  obtain ⟨_, hb⟩ := hr.blk
  exact own_beside h hb (by decide) hg

theorem rdCount_bd (l : List UInt8) (err m : Nat) (he : err ≤ 1000) : (rdCount l err (m : Int)).1 ≤ m ∧ (rdCount l err (m : Int)).2.1.length ≤ l.length ∧ (rdCount l err (m : Int)).2.2 ≤ 1000 := by
  unfold rdCount
  split
  · exact ⟨Nat.zero_le _, Nat.le_refl _, he⟩
  · split
    · rename_i er hg
      exact ⟨Nat.zero_le _, Nat.le_refl _, (rdErr_le hg).1⟩
    · rename_i x n hg
      split
      · exact ⟨Nat.zero_le _, Nat.le_refl _, (show 32 ≤ 1000 by decide)⟩
      · rename_i hx
        exact ⟨by simp only; omega, by simp only [List.length_drop]; omega, Nat.zero_le _⟩
theorem rdFlag_bd (l : List UInt8) (err : Nat) (he : err ≤ 1000) : (rdFlag l err).2.1.length ≤ l.length ∧ (rdFlag l err).2.2 ≤ 1000 := by
  unfold rdFlag
  split
  · exact ⟨Nat.le_refl _, he⟩
  · rcases l with _ | ⟨b, l⟩
    · exact ⟨Nat.le_refl _, (show 30 ≤ 1000 by decide)⟩
    · simp only
      split
      · exact ⟨Nat.le_refl _, (show 33 ≤ 1000 by decide)⟩
      · exact ⟨by simp, Nat.zero_le _⟩
theorem rdText_bd (l : List UInt8) {e : Nat} (he : e ≤ 1000) : (rdText l e).1.length ≤ 65536 ∧ (rdText l e).2.1.length ≤ l.length ∧ (rdText l e).2.2 ≤ 1000 := by
  unfold rdText
  split
  · exact ⟨by simp, Nat.le_refl _, he⟩
  · split
    · rename_i er hg
      exact ⟨by simp, Nat.le_refl _, (rdErr_le hg).1⟩
    · rename_i x n hg
      split
      · exact ⟨by simp, Nat.le_refl _, (show 32 ≤ 1000 by decide)⟩
      · split
        · exact ⟨by simp, Nat.le_refl _, (show 30 ≤ 1000 by decide)⟩
        · exact ⟨by simp only [List.length_take]; omega, by simp only [List.length_drop]; omega, Nat.zero_le _⟩
/-- A new block of one cell reads as that cell. -/
theorem Sl.newcel {S : Nat → Prop} (w : World) (c : Cel) {g : Nat} (hg : g = w.heap.size) (hS : S g) :
    Sl S (w.alloc (.cells #[.string (st c.1), .string (st c.2)] 47)) 2 (.slice (some ⟨g, 0, none⟩) 1 1) 1 (ccs [c]) := by
  subst hg
  refine ⟨by simp [ccs], _, 1, rfl, by simp, by simp [maxLen], (fun h => by cases h), fun _ => ⟨_, 0, rfl, hS, fun j v hu => ?_⟩⟩
  rw [World.cell?_alloc_new, Nat.zero_add]
  simpa [ccs] using hu
/-- append as one step of a region that draws: w0 is the world without the draws. -/
theorem step_append_cl {P : Program} {w : World} {ops : Array Oper} {o : Oper} {a : Act} {K : Act → World → Prop} {Q : Exit → Act → World → Prop} {F : Prop} (w0 : World) (hd : Drawn w0 w) (hgd : o.guard = none) (s x : Operand) {t e : TypeId} {z : Value} {size bytes : Nat}
    (E : Elem P t e z size bytes) (ho : o.op = .call { callee := .builtin .append, args := #[s, x], argTypes := #[t, t] })
    {base : Nat} {v : Value} {n : Nat} {xs : List Value} (hown : w0.ownsRow base e size v n xs)
    {S : Nat → Prop} {u : Value} {m : Nat} {news : List Value} (hr : Sl S w0 size u m news) (hs : a.eval s = v) (hx : a.eval x = u) (h1 : ∀ y ∈ news, y.oneCell' = true)
    (hlen : n + m ≤ maxLen) (hbytes : (n + m) * bytes ≤ 140737488355328) (hbase : base ≤ w0.heap.size)
    (h : ∀ A k c w', w'.ownsRow base e size (.slice A k c) (n + m) (xs ++ news) → w0.grownBy w' v.ownBlock → K (a.put o.dst (.slice A k c)) w') :
    if Region.wanted o (yielded ops a.tmps) = true then Oper.wp P o a w K Q else F := by
  have hw : Region.wanted o (yielded ops a.tmps) = true := by simp [Region.wanted, hgd]
  rw [if_pos hw]
  obtain ⟨d, rfl⟩ := hd
  obtain ⟨v', w', hrun, h2, h3, h4⟩ := run_append_sl (P := P) (w0.drewN d) E o.type hown (Sl.drewN hr d) h1 hlen hbytes hbase
  obtain ⟨A, k, c, rfl⟩ := own_slice h2
  unfold Oper.wp execOp
  simp only [ho, resolve, invoke, builtin, Sem.run_bind, Sem.run_pure, Result.andThen_ok, List.map_toArray, List.map_cons, List.map_nil, hs, hx, hrun]
  exact h A k c w' h2 ⟨h3.os, h3.tape, h3.output, h3.size, h3.block⟩
theorem rdCells_step {c i : Nat} (h : i < c) (s : List UInt8 × Nat) (acc : List Cel) : rdCells (c - i) s acc = rdCells (c - (i + 1)) (rdText (rdText s.1 s.2).2.1 (rdText s.1 s.2).2.2).2 (acc ++ [((rdText s.1 s.2).1, (rdText (rdText s.1 s.2).2.1 (rdText s.1 s.2).2.2).1)]) := by
  rw [show c - i = c - (i + 1) + 1 by omega, rdCells]
theorem Rd.keptCo {w w' : World} {g B B' : Nat} {l : List UInt8} {err : Nat} (h : Rd w g B l err) {size n : Nat} {v : Value} {xs : List Value} (ho : w.ownsRow B' 47 size v n xs) (hg : w.grownBy w' v.ownBlock) : Rd w' g B l err := by
  obtain ⟨A, k, c, h1, h2⟩ := h
  refine ⟨A, k, c, h1.kept ho hg (by decide), h2.keep fun b hb => ?_⟩
  obtain ⟨_, cs, fz, hh⟩ := hb
  refine hg.block b (lt_of_block hh) fun e => ?_
  rcases ho.2 with ⟨rfl, _⟩ | ⟨g', cap, cur, rfl, _, hh', _⟩
  · cases e
  · simp only [Value.ownBlock, Option.some.injEq] at e
    subst e
    rw [hh] at hh'
    injection hh' with hh'
    injection hh' with _ he
    exact absurd he (by decide)
/-- The round's two texts and the cell that is put behind the others. -/
structure OfSt (w wr : World) (gp g B : Nat) (b : Bool) (n : Nat) (sl : Value) (cs : List Cel) (l : List UInt8) (er : Nat) : Prop where
  page : Blk wr gp 24 #[.bool b, .int .i64 (n : Int), sl]
  own : Co wr w.heap.size sl cs
  rd : Rd wr g B l er
  below : Below w.heap.size w wr
  room : B ≤ wr.heap.size
  few : cs.length ≤ 2048 ∧ ∀ c ∈ cs, c.1.length ≤ 65536 ∧ c.2.length ≤ 65536
  lens : l.length ≤ 1099511627776 ∧ er ≤ 1000

set_option maxHeartbeats 4000000 in
set_option maxRecDepth 100000 in
theorem pgof_any (S : Nat → Prop) (v0 : Value) (l : List UInt8) (w : World) (hl : l.length ≤ 1099511627776) (hr : Bs S w v0 l) :
    Calls Tryd.prog 18 #[v0] w fun e w' => (∀ b n cs, pgOfB l = some (b, n, cs) → ∃ v, e = .returned (.tuple #[v, .int .i64 0]) ∧ PgIs w.heap.size w' v b (n : Int) cs) ∧
      (pgOfB l = none → e = .returned (.tuple #[.agg #[.bool false, .int .i64 0, .slice none 0 0], .int .i64 101])) ∧ Below w.heap.size w w' := by
  have HR : Hid (Bs (fun b => b < w.heap.size) w v0 l) := (Sl.lt hr (by omega)).more (fun _ h => h.2)
  have hb0 := Blk.new w 24 #[.bool false, .int .i64 0, .slice none 0 0]
  have q0 : Below w.heap.size w (w.alloc (.cells #[.bool false, .int .i64 0, .slice none 0 0] 24)) := (Below.refl _ _).alloc (Nat.le_refl _) _
  have hr0 := Lib.hid (Sl.alloc HR.out (fun _ h => h) (.cells #[.bool false, .int .i64 0, .slice none 0 0] 24))
  have HO0 : Hid (pgOfB l = match openB l with | .error _ => none | .ok f => pgIn f) := rfl
  clear hr
  go_enter Tryd.func18, Tryd.ntmps18
  go_wp2_with fail
  generalize hW : w.alloc (.cells #[.bool false, .int .i64 0, .slice none 0 0] 24) = W at *
  clear hW
  refine (open_any (fun b => b < w.heap.size) v0 l W hl hr0.out).mono ?_
  rintro e w1 ⟨hok, her, hbl1⟩
  have HB0 := Lib.hid hb0
  have hWs := hb0.lt
  have hb1 := hb0.later hbl1
  have q1 := q0.trans (hbl1.mono q0.size)
  cases ho : openB l with
  | error er =>
    obtain rfl := her _ ho
    have HN : Hid (pgOfB l = none) := by rw [Hid, HO0.out, ho]
    have t1 : ((er : Int) != 0) = true := by
      rw [bne_iff_ne]
      have : er = 20 ∨ er = 21 := openB_errs ho
      rcases this with rfl | rfl <;> decide
    have d0 : w1.cell? ⟨w.heap.size, 0, none⟩ = some (.bool false) := hb1.cell 0
    have d1 : w1.cell? ⟨w.heap.size, 1, none⟩ = some (.int .i64 0) := hb1.cell 1
    have d2 : w1.cell? ⟨w.heap.size, 2, none⟩ = some (.slice none 0 0) := hb1.cell 2
    have f0 := hb1.free 0
    have f1 := hb1.free 1
    have f2 := hb1.free 2
    clear ho hok her HO0
    go_wp2_with fail
    exact bodyPost_ret (results_cell2 rfl _ _ w.heap.size rfl (hb1.put3 _ _ _) pageTy) rfl ⟨fun b n cs h => (by rw [HN.out] at h; cases h), fun _ => rfl, below_put3 q1 (Nat.le_refl _) _ _ _⟩
  | ok f =>
    obtain ⟨A1, k1, c1, rfl, hown1⟩ := hok _ ho
    have hfl : f.length ≤ 1099511627776 := openB_lens ho hl
    have HO1 : Hid (pgOfB l = pgIn f) := by rw [Hid, HO0.out, ho]
    have HF := Lib.hid hown1
    have hmf := run_makeFunc Tryd.prog
    clear ho hok her HO0 hown1
    go_wp2_with fail
    refine (read_any _ _ f w1 hfl HF.out.bs).mono ?_
    rintro e w2 ⟨g, rfl, hg2, hr2, hbl2⟩
    have q2 : Below W.heap.size W w2 := hbl1.trans (hbl2.mono hbl1.size)
    have HR2 := Lib.hid hr2
    have hB1 := hbl1.size
    have hB2 := hbl2.size
    clear hr2 hbl2
    go_wp2_with fail
    refine (rflag_any g w1.heap.size f 0 w2 HR2.out hB2 hfl).mono ?_
    rintro e w3 ⟨rfl, hr3, hg3⟩
    have hbd1 := rdFlag_bd f 0 (Nat.zero_le _)
    obtain ⟨X1, hX1⟩ : ∃ X, rdFlag f 0 = X := ⟨_, rfl⟩
    rw [hX1] at hr3 hbd1
    rw [hX1]
    have HX1 := Lib.hid hX1
    obtain ⟨b, s1, e1⟩ := X1
    simp only at hr3 hbd1 ⊢
    have q3 : Below W.heap.size W w3 := q2.trans (grown_below hg3 (by omega) q2.size)
    have hB3 := hg3.size
    have HR3 := Lib.hid hr3
    clear hr3 hg3 hX1
    go_wp2_with fail
    refine (count_any g w1.heap.size s1 e1 256 w3 HR3.out (by omega) (by omega) (by omega) (by omega)).mono ?_
    rintro e w4 ⟨rfl, hr4, hg4⟩
    have hbd2 := rdCount_bd s1 e1 256 hbd1.2
    rw [show (((256 : Nat)) : Int) = 256 from rfl] at hbd2
    obtain ⟨X2, hX2⟩ : ∃ X, rdCount s1 e1 256 = X := ⟨_, rfl⟩
    rw [hX2] at hr4 hbd2
    rw [hX2]
    have HX2 := Lib.hid hX2
    obtain ⟨n, s2, e2⟩ := X2
    simp only at hr4 hbd2 ⊢
    have q4 : Below W.heap.size W w4 := q3.trans (grown_below hg4 (by omega) q3.size)
    have hB4 := hg4.size
    have hgl4 : g < w4.heap.size := by obtain ⟨_, h⟩ := hr4.blk; exact h.lt
    have hbp := Blk.new w4 24 #[.bool b, .int .i64 (n : Int), .slice none 0 0]
    have hr5 := hr4.later ((Below.refl _ _).alloc (Nat.le_refl _) (.cells #[.bool b, .int .i64 (n : Int), .slice none 0 0] 24))
    have q5 := q4.alloc q4.size (.cells #[.bool b, .int .i64 (n : Int), .slice none 0 0] 24)
    have HR5 := Lib.hid hr5
    have hsz5 : w1.heap.size ≤ (w4.alloc (.cells #[.bool b, .int .i64 (n : Int), .slice none 0 0] 24)).heap.size := by simp; omega
    clear hr4 hr5 hg4 hX2 HR3
    go_wp2_with fail
    refine (count_any g w1.heap.size s2 e2 2048 _ HR5.out hsz5 (by omega) (by omega) (by omega)).mono ?_
    rintro e w6 ⟨rfl, hr6, hg6⟩
    have hbd3 := rdCount_bd s2 e2 2048 hbd2.2.2
    rw [show (((2048 : Nat)) : Int) = 2048 from rfl] at hbd3
    obtain ⟨X3, hX3⟩ : ∃ X, rdCount s2 e2 2048 = X := ⟨_, rfl⟩
    rw [hX3] at hr6 hbd3
    rw [hX3]
    have HX3 := Lib.hid hX3
    obtain ⟨c, s3, e3⟩ := X3
    simp only at hr6 hbd3 ⊢
    have hgp : g ≠ w4.heap.size := by omega
    have hbp6 := hbp.grown hg6 (by simpa using hgp)
    have q6 : Below W.heap.size W w6 := q5.trans (grown_below hg6 (by omega) q5.size)
    have R0 : OfSt W w6 w4.heap.size g w1.heap.size b n (.slice none 0 0) [] s3 e3 :=
      ⟨hbp6, Co.nil _ _, hr6, q6, Nat.le_trans hsz5 hg6.size, ⟨Nat.zero_le _, fun c hc => by cases hc⟩, by omega, hbd3.2.2⟩
    have HPG : Hid (pgOfB l = match rdCells c (s3, e3) [] with | (cs, s4, e4) => if rdEnd s4 e4 = 0 ∧ pgChk (n : Int) cs = 0 then some (b, n, cs) else none) := by
      rw [Hid, HO1.out]
      unfold pgIn
      rw [HX1.out]
      simp only
      rw [HX2.out]
      simp only
      rw [HX3.out]
    have hgp4 : W.heap.size ≤ w4.heap.size := q4.size
    have hgW : W.heap.size ≤ g := by omega
    have hc2048 := hbd3.1
    have hn256 := hbd2.1
    clear hr6 hg6 hX3 HR5 hbp hbp6 HX1 HX2 HX3 HO1 hbd1 hbd2 hbd3 q5
    go_wp2_with fail
    go_loopw [28] (fun iv wr => ∃ (i : Nat) (sl : Value) (cs : List Cel) (lr : List UInt8) (er : Nat), iv = .int .i64 (i : Int) ∧ i ≤ c ∧ cs.length = i ∧ OfSt W wr w4.heap.size g w1.heap.size b n sl cs lr er ∧ Hid (rdCells c (s3, e3) [] = rdCells (c - i) (lr, er) cs)) (fun iv _ => c - (intOf iv).toNat)
    case atStart => exact ⟨0, _, [], s3, e3, rfl, by omega, rfl, R0, rfl⟩
    case round =>
      obtain ⟨i, sl, cs, lr, er, rfl, hi, hlen, hst, hrc⟩ := hrel
      clear R0
      by_cases hic : i < c
      · subst hlen
        have hlo := hst.lens
        have hT1 := fun (w' : World) (h1 : Rd w' g w1.heap.size lr er) (h2 : w1.heap.size ≤ w'.heap.size) => rtext_any g w1.heap.size lr er w' h1 h2 hlo.1
        have hk1 := rdText_bd lr hlo.2
        have hst2 := hrc.out.trans (rdCells_step hic (lr, er) cs)
        simp only at hst2
        obtain ⟨X1, hX1⟩ : ∃ X, rdText lr er = X := ⟨_, rfl⟩
        rw [hX1] at hT1 hk1 hst2
        obtain ⟨k, l1, er1⟩ := X1
        simp only at hT1 hk1 hst2
        have hT2 := fun (w' : World) (h1 : Rd w' g w1.heap.size l1 er1) (h2 : w1.heap.size ≤ w'.heap.size) => rtext_any g w1.heap.size l1 er1 w' h1 h2 (by omega)
        have hk2 := rdText_bd l1 hk1.2.2
        obtain ⟨X2, hX2⟩ : ∃ X, rdText l1 er1 = X := ⟨_, rfl⟩
        rw [hX2] at hT2 hk2 hst2
        obtain ⟨v, l2, er2⟩ := X2
        simp only at hT2 hk2 hst2
        have HT1 := Lib.hid hT1
        have HT2 := Lib.hid hT2
        have HRC := Lib.hid hst2
        have HST := Lib.hid hst
        obtain ⟨A0, k0, c0, rfl⟩ := own_slice hst.own
        obtain rfl := own_len hst.own
        have HF := Lib.hid hst.few
        have HLB : Hid (w1.heap.size ≤ wr.heap.size) := hst.room
        have p2 : wr.cell? ⟨w4.heap.size, 2, none⟩ = some (.slice A0 cs.length c0) := hst.page.cell 2
        have hgne : ¬ g = w4.heap.size := hgp
        have hgne2 : (some g : Option Nat) ≠ some w4.heap.size := by simpa using hgp
        clear hT1 hT2 hst2 hst hrc hX1 hX2
        go_wp2_with fail
        go_region_law (first
          | (go_simp; go_at_call 46; refine (HT2.out _ (by exact hr1) (by exact hBa)).mono ?_; rintro e wb ⟨rfl, hr2, hg2⟩; have hg2' : wa.grownBy wb (some g) := ⟨hg2.os, hg2.tape, hg2.output, hg2.size, hg2.block⟩; have hpb := hpa.grown hg2' hgne2; have pb2 : wb.cell? ⟨w4.heap.size, 2, none⟩ = some (.slice A0 cs.length c0) := hpb.cell 2; have hpx := hpb.alloc (.cells #[.string (st k), .string (st v)] 47); have px2 : (wb.alloc (.cells #[.string (st k), .string (st v)] 47)).cell? ⟨w4.heap.size, 2, none⟩ = some (.slice A0 cs.length c0) := hpx.cell 2; have hob := hoa.beside hr1 hg2')
          | (go_simp; go_at_call 46; refine (HT1.out _ (by exact HST.out.rd) (by exact HLB.out)).mono ?_; rintro e wa ⟨rfl, hr1, hg1⟩; have hg1' : wr.grownBy wa (some g) := ⟨hg1.os, hg1.tape, hg1.output, hg1.size, hg1.block⟩; have hpa := HST.out.page.grown hg1' hgne2; have pa2 : wa.cell? ⟨w4.heap.size, 2, none⟩ = some (.slice A0 cs.length c0) := hpa.cell 2; have hoa := HST.out.own.beside HST.out.rd hg1'; have hBa : w1.heap.size ≤ wa.heap.size := Nat.le_trans HLB.out hg1'.size)
          | (refine step_append_cl (wb.alloc (.cells #[.string (st k), .string (st v)] 47)) (by first | exact ⟨0, rfl⟩ | exact ⟨1, rfl⟩ | exact ⟨2, rfl⟩ | exact ⟨3, rfl⟩ | exact ⟨4, rfl⟩) rfl (.tmp 31) (.tmp 37) elemCel rfl (World.ownsRow.alloc hob _) (Sl.newcel (S := fun _ => True) _ (k, v) rfl trivial) rfl rfl (ccs_one _) (by simp only [maxLen]; omega) (by omega) ((Nat.le_trans HST.out.below.size (Nat.le_trans hg1'.size (Nat.le_trans hg2'.size (by simp))))) ?_; intro A5 k5 c5 w5 hown5 hg5; have hp5 := hpx.kept (World.ownsRow.alloc hob _) hg5 (by decide); have p5 : w5.cell? ⟨w4.heap.size, 2, none⟩ = some (.slice A0 cs.length c0) := hp5.cell 2; have f5 := hp5.free 2; have hr5 := (hr2.later ((Below.refl _ _).alloc (Nat.le_refl _) (.cells #[.string (st k), .string (st v)] 47))).keptCo (World.ownsRow.alloc hob _) hg5))
        all_goals
          go_wp2_with fail
          go_roundw
          case rel =>
            obtain rfl : k5 = cs.length + 1 := own_len hown5
            have hown6 : Co w5 W.heap.size (.slice A5 (cs.length + 1) c5) (cs ++ [(k, v)]) := by
              unfold Co
              rw [ccs_append, show (cs ++ [(k, v)]).length = cs.length + 1 by simp]
              exact hown5
            have hq5 : Below W.heap.size W w5 := below_grown_own ((((HST.out.below).trans (grown_below hg1' hgW HST.out.below.size)).trans (grown_below hg2' hgW (Nat.le_trans HST.out.below.size hg1'.size))).alloc (Nat.le_trans HST.out.below.size (Nat.le_trans hg1'.size hg2'.size)) (.cells #[.string (st k), .string (st v)] 47)) (World.ownsRow.alloc hob _) hg5 (Nat.le_trans HST.out.below.size (Nat.le_trans hg1'.size (Nat.le_trans hg2'.size (by simp))))
            refine ⟨cs.length + 1, _, cs ++ [(k, v)], l2, er2, by go_num, by omega, by simp, ⟨hp5.put 2 _, own_set hown6 hp5 (by decide) 2 _, hr5.far hp5 (by decide) (by decide) 2 _, hq5.setCell hgp4 _, by have h1 := hg2'.size; have h2 := hg5.size; simp at h2 ⊢; omega, ⟨by simp; omega, fun x hx => ?_⟩, ⟨by omega, hk2.2.2⟩⟩, HRC.out⟩
            rcases List.mem_append.1 hx with h | h
            · exact HF.out.2 x h
            · simp at h
              subst h
              exact ⟨hk1.1, hk2.1⟩
          case measure => simp [intOf]; omega
      · obtain rfl : i = c := by omega
        have HE0 : Hid (pgOfB l = if rdEnd lr er = 0 ∧ pgChk (n : Int) cs = 0 then some (b, n, cs) else none) := by
          have h := hrc.out
          rw [Nat.sub_self, rdCells] at h
          rw [Hid, HPG.out, h]
        have HST := Lib.hid hst
        obtain ⟨A0, k0, c0, rfl⟩ := own_slice hst.own
        obtain rfl := own_len hst.own
        have qr := q0.trans (hst.below.mono q0.size)
        have hbr := HB0.out.later hst.below
        have g0 : wr.cell? ⟨w4.heap.size, 0, none⟩ = some (.bool b) := hst.page.cell 0
        have g1 : wr.cell? ⟨w4.heap.size, 1, none⟩ = some (.int .i64 (n : Int)) := hst.page.cell 1
        have g2 : wr.cell? ⟨w4.heap.size, 2, none⟩ = some (.slice A0 cs.length c0) := hst.page.cell 2
        have hlo := hst.lens
        clear hst hrc HPG hlen
        go_wp2_with fail
        refine (end_rd g w1.heap.size lr er wr HST.out.rd hlo.1).mono ?_
        rintro e w7 ⟨rfl, rfl⟩
        by_cases hE : rdEnd lr er = 0
        · rw [hE]
          have HE := Lib.hid hE
          clear hE
          go_wp2_with fail
          refine (pcheck_any _ b (n : Int) _ cs wr (by omega) ⟨by have := HST.out.few.1; omega, HST.out.few.2⟩ HST.out.own.cs).mono ?_
          rintro e w8 ⟨rfl, hbl8⟩
          have q8 := qr.trans (hbl8.mono qr.size)
          have hb8 := hbr.later hbl8
          have r0 : w8.cell? ⟨w.heap.size, 0, none⟩ = some (.bool false) := hb8.cell 0
          have r1 : w8.cell? ⟨w.heap.size, 1, none⟩ = some (.int .i64 0) := hb8.cell 1
          have r2 : w8.cell? ⟨w.heap.size, 2, none⟩ = some (.slice none 0 0) := hb8.cell 2
          have rf0 := hb8.free 0
          have rf1 := hb8.free 1
          have rf2 := hb8.free 2
          have h0 := cell_later hbl8 g0
          have h1 := cell_later hbl8 g1
          have h2 := cell_later hbl8 g2
          by_cases hC : pgChk (n : Int) cs = 0
          · rw [hC]
            have HY : Hid (pgOfB l = some (b, n, cs)) := by rw [Hid, HE0.out, if_pos ⟨HE.out, hC⟩]
            clear hC HE0
            go_wp2_with fail
            refine bodyPost_ret (results_cell2 rfl _ _ w.heap.size rfl (hb8.put3 _ _ _) pageTy) rfl ⟨fun b' n' cs' h => ?_, fun h => (by rw [HY.out] at h; cases h), below_put3 q8 (Nat.le_refl _) _ _ _⟩
            rw [HY.out] at h
            injection h with h
            injection h with h1 h
            injection h with h2 h3
            subst h1 h2 h3
            exact ⟨_, rfl, A0, c0, rfl, Cs.put3 (L := W.heap.size) (Sl.below HST.out.own.cs hbl8 (fun _ h => h.2)) (fun x h => ⟨h.1, Nat.lt_of_lt_of_le h.2 hbl8.size⟩) hWs q0.size _ _ _⟩
          · have HN : Hid (pgOfB l = none) := by rw [Hid, HE0.out, if_neg (fun h => hC h.2)]
            have t1 : ((pgChk (n : Int) cs : Int) != 0) = true := by rw [bne_iff_ne]; omega
            generalize pgChk (n : Int) cs = P at *
            clear hC HE0
            go_wp2_with fail
            exact bodyPost_ret (results_cell2 rfl _ _ w.heap.size rfl (hb8.put3 _ _ _) pageTy) rfl ⟨fun b n cs h => (by rw [HN.out] at h; cases h), fun _ => rfl, below_put3 q8 (Nat.le_refl _) _ _ _⟩
        · have HN : Hid (pgOfB l = none) := by rw [Hid, HE0.out, if_neg (fun h => hE h.1)]
          have t1 : ((rdEnd lr er : Int) != 0) = true := by rw [bne_iff_ne]; omega
          have r0 : wr.cell? ⟨w.heap.size, 0, none⟩ = some (.bool false) := hbr.cell 0
          have r1 : wr.cell? ⟨w.heap.size, 1, none⟩ = some (.int .i64 0) := hbr.cell 1
          have r2 : wr.cell? ⟨w.heap.size, 2, none⟩ = some (.slice none 0 0) := hbr.cell 2
          have rf0 := hbr.free 0
          have rf1 := hbr.free 1
          have rf2 := hbr.free 2
          generalize rdEnd lr er = P at *
          clear hE HE0
          go_wp2_with fail
          exact bodyPost_ret (results_cell2 rfl _ _ w.heap.size rfl (hbr.put3 _ _ _) pageTy) rfl ⟨fun b n cs h => (by rw [HN.out] at h; cases h), fun _ => rfl, below_put3 qr (Nat.le_refl _) _ _ _⟩
end Go.Proofs.YtlidbgidbpaenaaDoor
