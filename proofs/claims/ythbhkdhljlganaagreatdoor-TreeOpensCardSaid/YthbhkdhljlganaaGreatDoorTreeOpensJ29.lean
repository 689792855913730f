/- What the proof of TreeOpens needs, part 29. -/
import Derived.Test.YthbhkdhljlganaaGreatDoorTreeOpensJ28

namespace Go.Proofs.YthbhkdhljlganaaGreatDoor
open Go Go.RowKit
set_option linter.unusedVariables false

theorem results_tmp4 {fn : Func} {t u v s : Tmp} (h : fn.results = #[.tmp t, .tmp u, .tmp v, .tmp s]) (tmps : Array Value) (P : Program) (w : World) :
    (results fn tmps).run P w = .ok (.tuple #[tmps.getD t undef, tmps.getD u undef, tmps.getD v undef, tmps.getD s undef]) w := by
  simp [results, h]
theorem own_turnd {F : Nat → Prop} {w w' : World} {B : Nat} {e : TypeId} {size n : Nat} {v : Value} {xs : List Value} (h : w.ownsRow B e size v n xs) (T : Turn F w w') (hF : ∀ b, B ≤ b → b < w.heap.size → ¬ F b) : w'.ownsRow B e size v n xs := by
  have hlt := fun g hg => h.lt g hg
  obtain ⟨h4, h5⟩ := h
  refine ⟨h4, ?_⟩
  rcases h5 with h5 | ⟨g, cap, cur, hv, hg, hh, r⟩
  · exact .inl h5
  · have hq := hlt g (by rw [hv]; rfl)
    exact .inr ⟨g, cap, cur, hv, hg, (T.block g hq.2 (hF g hq.1 hq.2)).trans hh, r⟩
theorem ShIn.dep {pf : PF} : ∀ {j : Nat} {t : Ct j} {i : Nat}, ShIn pf j t i → j ≤ (Ct.subs j t).length
  | 0, _, _, _ => Nat.zero_le _
  | j + 1, ks, i, h => by
    have h1 : 0 < List.length (α := Kid j) ks := h.n1 (by omega)
    have h2 := (h.kid h1).dep
    have h3 := subsL_take (ks := ks) h1
    have h4 := subsL_le (ks := ks) (a := 0 + 1)
    show j + 1 ≤ (subsL (j := j) ks).length
    omega
theorem pg_bytes {P : Pgr} {c : Int → List UInt8} {i : Int} {x : Pag} (hr : Pr P c) (h : P.pg c i = some x) : P.has i = true ∧ pgOfB ((P.page c i).getD []) = some x ∧ ((P.page c i).getD []).length ≤ 2048 := by
  cases hh : P.has i with
  | false => unfold Pgr.pg Pgr.page at h; rw [hh] at h; cases h
  | true =>
    have hpage : P.page c i = some ((P.wr i).getD (c i)) := by unfold Pgr.page; rw [hh]; rfl
    refine ⟨rfl, by rw [← h]; unfold Pgr.pg; rw [hpage]; rfl, ?_⟩
    rw [hpage]
    simp only [Option.getD_some]
    cases hw : P.wr i with
    | some b => exact hr.wlen i b hw
    | none =>
      have : (P.tb i).isSome = true := by
        unfold Pgr.has at hh
        rw [hw] at hh
        simp only [Option.isSome_none, Bool.false_or, Bool.and_eq_true] at hh
        exact hh.1
      obtain ⟨⟨p, l⟩, hpl⟩ := Option.isSome_iff_exists.1 this
      obtain ⟨_, h2, h3, _⟩ := hr.stored i p l hpl
      simp only [Option.getD_none]
      omega
/-- What shape returns. -/
def ShPost (gl j : Nat) (t : Ct j) (m : Nat) (w : World) (e : Ending) (w' : World) : Prop :=
  ∃ A k A' k' n', ∃ is : List Nat, e = .returned (.tuple #[.slice A (Ct.cells j t).length k, .slice A' n' k', .int .i64 (((j + 1 : Nat)) : Int), .bool true]) ∧
    Cs (fun b => w.heap.size ≤ b ∧ b < w'.heap.size) w' (.slice A (Ct.cells j t).length k) (Ct.cells j t) ∧ is.length ≤ 1 + (Ct.subs j t).length ∧ n' = is.length ∧
    Sl (fun b => w.heap.size ≤ b ∧ b < w'.heap.size) w' 1 (.slice A' n' k') is.length (il is) ∧ Turn (fun b => b = gl) w w' ∧ Blk w' gl 3 #[.int .i64 ((m - (1 + (Ct.subs j t).length) : Nat) : Int)]
/-- Amid shape's loop. -/
structure ShSt (gl m : Nat) {j : Nat} (ks : List (Kid j)) (W wr : World) (lv iv : Value) (a : Nat) : Prop where
  T : Turn (fun b => b = gl) W wr
  left : Blk wr gl 3 #[.int .i64 ((m - 1 - (subsL (ks.take a)).length : Nat) : Int)]
  own : Co wr W.heap.size lv (cellsL (ks.take a))
  ids : ∃ is : List Nat, is.length ≤ (subsL (ks.take a)).length ∧ Ow 3 wr W.heap.size iv (il is)
/-- One of the pages that a page leads to. -/
structure KidAt (pf : PF) (j : Nat) (ks : List (Kid j)) (cs : List Cel) (a : Nat) (K : Key) (ID : Nat) (tk : Ct j) : Prop where
  cell : ∀ h : a < cs.length, cs[a] = (K, varB ID)
  inn : ShIn pf j tk ID
  id : 0 < ID ∧ ID < 90
  lo : ∀ x ∈ Ct.cells j tk, Op.bytesLess x.1 K = false
  hi : ∀ h : a + 1 < cs.length, ∀ x ∈ Ct.cells j tk, Op.bytesLess x.1 cs[a + 1].1 = true
  cellsT : cellsL (ks.take (a + 1)) = cellsL (ks.take a) ++ Ct.cells j tk
  subsT : (subsL (ks.take (a + 1))).length = (subsL (ks.take a)).length + (1 + (Ct.subs j tk).length)
  le : (subsL (ks.take (a + 1))).length ≤ (subsL ks).length
  bd : (cellsL (ks.take a)).length ≤ 1024 * (subsL (ks.take a)).length
  bdk : (Ct.cells j tk).length ≤ 1024 * (1 + (Ct.subs j tk).length)
theorem kidAt_of {pf : PF} {j i : Nat} {ks : List (Kid j)} (h : ShIn pf (j + 1) ks i) {cs : List Cel} (hcs : cs = leads ks) {a : Nat} (ha : a < cs.length) : ∃ K ID tk, KidAt pf j ks cs a K ID tk := by
  subst hcs
  have hak : a < ks.length := by rw [leads_len] at ha; exact ha
  have hc : ∀ b (hb : b < (leads ks).length) (hb' : b < ks.length), (leads ks)[b] = (ks[b].1, varB ks[b].2.1) := fun b hb hb' => by
    have := leads_at (ks := ks) hb'
    rw [List.getElem?_eq_getElem hb] at this
    exact Option.some.inj this
  have hkeys := h.keys hak
  refine ⟨ks[a].1, ks[a].2.1, ks[a].2.2, fun hb => hc a hb hak, h.kid hak, h.kid0 hak, fun x hx => (hkeys x hx).1, fun hb x hx => ?_, cellsL_take hak, subsL_take hak, subsL_le, h.bdT a (by omega), (h.kid hak).bd⟩
  have hb' : a + 1 < ks.length := by rw [leads_len] at hb; exact hb
  rw [hc _ hb hb']
  exact (hkeys x hx).2 hb'
theorem ShSt.go {gl m : Nat} {j : Nat} {ks : List (Kid j)} {W wr w3 w7 w8 : World} {lv iv lv' iv' : Value} {a : Nat} {pf : PF} {cs : List Cel} {K : Key} {ID : Nat} {tk : Ct j} {is1 is : List Nat} (h : ShSt gl m ks W wr lv iv a) (k : KidAt pf j ks cs a K ID tk) (hgl : gl < W.heap.size)
    (hT : Turn (fun b => b = gl) W w3) (hl3 : Blk w3 gl 3 #[.int .i64 ((m - 1 - (subsL (ks.take a)).length - (1 + (Ct.subs j tk).length) : Nat) : Int)]) (h1 : is1.length ≤ (subsL (ks.take a)).length) (h2 : is.length ≤ 1 + (Ct.subs j tk).length)
    (o3 : Co w3 W.heap.size lv (cellsL (ks.take a))) (i3 : Ow 3 w3 W.heap.size iv (il is1))
    (o7 : w7.ownsRow W.heap.size 81 2 lv' ((cellsL (ks.take a)).length + (Ct.cells j tk).length) (ccs (cellsL (ks.take a)) ++ ccs (Ct.cells j tk))) (g7 : w3.grownBy w7 lv.ownBlock)
    (i8 : w8.ownsRow W.heap.size 3 1 iv' ((il is1).length + is.length) (il is1 ++ il is)) (g8 : w7.grownBy w8 iv.ownBlock) : ShSt gl m ks W w8 lv' iv' (a + 1) := by
  have i7 := own_by i3 o3 (by decide) g7
  have T7 := hT.trans (Turn.of_grown (F := fun b => W.heap.size ≤ b) g7 (fun z hz => (o3.lt z hz).1)) (fun b h => .inr h)
  have T8 := T7.trans (Turn.of_grown (F := fun b => W.heap.size ≤ b) g8 (fun z hz => (i7.lt z hz).1)) (fun b h => .inr h)
  refine ⟨T8, ?_, ?_, is1 ++ is, ?_, ?_⟩
  · have e : m - 1 - (subsL (ks.take a)).length - (1 + (Ct.subs j tk).length) = m - 1 - (subsL (ks.take (a + 1))).length := by rw [k.subsT]; omega
    rw [← e]
    exact (hl3.grown g7 (fun e => by have := (o3.lt gl e).1; omega)).grown g8 (fun e => by have := (i7.lt gl e).1; omega)
  · unfold Co
    rw [k.cellsT, ccs_append, List.length_append]
    exact own_by o7 i7 (by decide) g8
  · rw [List.length_append, k.subsT]
    omega
  · unfold Ow
    have e : il (is1 ++ is) = il is1 ++ il is := by simp [il]
    rw [e, List.length_append, il_len is]
    exact i8
/-- What the recursion wants. -/
def ShCall (gl : Nat) (Z : Pz) (P : Pgr) (c : Int → List UInt8) (wB : World) (j : Nat) : Prop :=
  ∀ (t : Ct j) (i m : Nat) (w : World), Below wB.heap.size wB w → Blk w gl 3 #[.int .i64 (m : Int)] → ShIn (P.pg c) j t i → 1 + (Ct.subs j t).length ≤ m → m ≤ 200 →
    Calls Tryz.prog 14 #[.pointer (some ⟨Z.g, 0, none⟩), .int .i64 (i : Int), .slice (some ⟨gl, 0, none⟩) 1 1] w (ShPost gl j t m w)
set_option maxHeartbeats 8000000 in
set_option maxRecDepth 100000 in
theorem shape_step (gl g : Nat) (Z : Pz) (P : Pgr) (c : Int → List UInt8) (wB : World) (ht : Tg wB g Z P c) (hgl : wB.heap.size ≤ gl) (j : Nat) (ih : ∀ j', j = j' + 1 → ShCall gl Z P c wB j') : ShCall gl Z P c wB j := by
  intro t i m w hb hl hs hm hm2
  have HT := Lib.hid ht
  have HS := Lib.hid hs
  have HB := Lib.hid hb
  have HM := Lib.hid hm
  have HDEP := Lib.hid hs.dep
  have hpgm := hs.pgs (i, Ct.page j t) (List.mem_cons_self ..)
  simp only at hpgm
  obtain ⟨lf, nx, cs, hx⟩ : ∃ lf nx cs, Ct.page j t = (lf, nx, cs) := ⟨_, _, _, rfl⟩
  rw [hx] at hpgm
  obtain ⟨hpg, hok⟩ := hpgm
  obtain ⟨hhas, hof, hlen⟩ := pg_bytes ht.pr hpg
  have hi9 := hs.i9
  have hglw := hl.lt
  have l0 : w.cell? ⟨gl, 0, none⟩ = some (.int .i64 (m : Int)) := hl.cell 0
  have lf0 := hl.free 0
  obtain ⟨M, hM⟩ : ∃ M, M = m - 1 := ⟨_, rfl⟩
  have hmw : IntKind.i64.wrap ((m : Int) - 1) = (M : Int) := by
    rw [i64_inp (by omega) (by omega)]
    omega
  have HMM := Lib.hid hM
  have hM2 : M ≤ 200 := by omega
  have hl1 := hl.put1 (.int .i64 (M : Int))
  have hb1 := hb.setCell (p := ⟨gl, 0, none⟩) hgl (.int .i64 (M : Int))
  have T1 := (Turn.refl (fun b => b = gl) w).setCell (p := ⟨gl, 0, none⟩) (.inl rfl) (.int .i64 (M : Int))
  have hsz1 : (w.setCell ⟨gl, 0, none⟩ (.int .i64 (M : Int))).heap.size = w.heap.size := by simp
  have HL1 := Lib.hid hl1
  have HB1 := Lib.hid hb1
  have HT1 := Lib.hid T1
  have HX := Lib.hid hx
  have HOK := Lib.hid hok
  have HOF := Lib.hid hof
  clear ht hs hb hm hl hpg hl1 hb1 T1 hx hok hof hM
  have hrd := pread_any Z P c (i : Int) (w.setCell ⟨gl, 0, none⟩ (.int .i64 (M : Int))) (HT.out.later HB1.out).pg HT.out.pr.ok HT.out.pr.stored HT.out.pr.wlen HT.out.pr.a0 HT.out.pr.a1 (by unfold InI; omega)
  unfold RdPost at hrd
  simp only [hhas, if_true] at hrd
  have HRD := Lib.hid hrd
  clear hrd hhas
  go_enter Tryz.func14, Tryz.ntmps14
  go_wp2_with fail
  refine HRD.out.mono ?_
  rintro e w1 ⟨A0, n0, c0, rfl, hob, hbl1⟩
  obtain rfl := hob.len
  have HOB := Lib.hid hob
  have HL2 := Lib.hid (HL1.out.later hbl1)
  have HB2 := Lib.hid (HB1.out.trans (hbl1.mono HB1.out.size))
  have HT2 := Lib.hid (HT1.out.trans (Turn.of_below (F := fun b => b = gl) hbl1) (fun b h => .inl h))
  have hsz2 := hbl1.size
  clear hob hbl1 HRD
  generalize (P.page c (i : Int)).getD [] = L at *
  go_wp2_with fail
  refine (pgof_any _ _ L w1 (by omega) HOB.out.bs).mono ?_
  rintro e w2 ⟨hsome, -, hbl2⟩
  obtain ⟨v, rfl, hpi⟩ := hsome _ _ _ HOF.out
  obtain ⟨A2, c2, rfl, hcs2⟩ := hpi
  have HCS2 := Lib.hid hcs2
  have HL3 := Lib.hid (HL2.out.later hbl2)
  have HB3 := Lib.hid (HB2.out.trans (hbl2.mono HB2.out.size))
  have HT3 := Lib.hid (HT2.out.trans (Turn.of_below (F := fun b => b = gl) hbl2) (fun b h => .inl h))
  have hsz3 := hbl2.size
  clear hsome hbl2 hcs2 HOB HL2 HB2 HT2
  have q4 := (Below.refl w2.heap.size w2).alloc (Nat.le_refl _) (.cells #[.bool lf, .int .i64 (nx : Int), .slice A2 cs.length c2] 36)
  have HX4 := Lib.hid (Blk.new w2 36 #[.bool lf, .int .i64 (nx : Int), .slice A2 cs.length c2])
  have HL4 := Lib.hid (HL3.out.later q4)
  have HB4 := Lib.hid (HB3.out.trans (q4.mono HB3.out.size))
  have HT4 := Lib.hid (HT3.out.trans (Turn.of_below (F := fun b => b = gl) q4) (fun b h => .inl h))
  have HCS4 : Hid (Cs (fun b => w.heap.size ≤ b ∧ b < w2.heap.size) (w2.alloc (.cells #[.bool lf, .int .i64 (nx : Int), .slice A2 cs.length c2] 36)) (.slice A2 cs.length c2) cs) := (Sl.below HCS2.out q4 (fun b h => h.2)).more fun b h => ⟨by have := h.1; omega, h.2⟩
  have l4 : (w2.alloc (.cells #[.bool lf, .int .i64 (nx : Int), .slice A2 cs.length c2] 36)).cell? ⟨gl, 0, none⟩ = some (.int .i64 (M : Int)) := HL4.out.cell 0
  have x0 : (w2.alloc (.cells #[.bool lf, .int .i64 (nx : Int), .slice A2 cs.length c2] 36)).cell? ⟨w2.heap.size, 0, none⟩ = some (.bool lf) := HX4.out.cell 0
  have x2 : (w2.alloc (.cells #[.bool lf, .int .i64 (nx : Int), .slice A2 cs.length c2] 36)).cell? ⟨w2.heap.size, 2, none⟩ = some (.slice A2 cs.length c2) := HX4.out.cell 2
  have hM0 : ((M : Int) < 0) = False := by simp
  have hwsz : (w2.alloc (.cells #[.bool lf, .int .i64 (nx : Int), .slice A2 cs.length c2] 36)).heap.size = w2.heap.size + 1 := by simp
  clear q4
  go_upto_region 4 with (fail)
  generalize hWW : w2.alloc (.cells #[.bool lf, .int .i64 (nx : Int), .slice A2 cs.length c2] 36) = W at *
  clear hWW
  cases lf with
  | true =>
    cases j with
    | succ j => exact absurd HX.out (fun h => by cases h)
    | zero =>
      obtain ⟨tn, tc⟩ := t
      have hcs : tc = cs := by have := HX.out; cases this; rfl
      subst hcs
      have q5 := (Below.refl W.heap.size W).alloc (Nat.le_refl _) (.cells #[.int .i64 (i : Int)] 3)
      have HL5 := Lib.hid (HL4.out.later q5)
      have HT5 := Lib.hid (HT4.out.trans (Turn.of_below (F := fun b => b = gl) q5) (fun b h => .inl h))
      have HC5 := Lib.hid (Sl.below HCS4.out q5 (fun b h => by have := h.2; omega))
      have hz5 : (W.alloc (.cells #[.int .i64 (i : Int)] 3)).heap.size = w2.heap.size + 1 + 1 := by simp [hwsz]
      have HN5 : Hid (Sl (fun b => w.heap.size ≤ b ∧ b < (W.alloc (.cells #[.int .i64 (i : Int)] 3)).heap.size) (W.alloc (.cells #[.int .i64 (i : Int)] 3)) 1 (.slice (some ⟨w2.heap.size + 1, 0, none⟩) 1 1) 1 [.int .i64 (i : Int)]) := Sl.new1 _ _ _ (by simp [hwsz]) ⟨by omega, by omega⟩
      clear q5
      go_wp2_with fail
      (try simp only [Exit.inBlock, Exit.then])
      refine bodyPost_ret (results_tmp4 rfl _ _ _) rfl ?_
      refine ⟨A2, c2, some ⟨w2.heap.size + 1, 0, none⟩, 1, 1, [i], rfl, Sl.more HC5.out (fun b h => ⟨h.1, by have := h.2; omega⟩), ?_, rfl, HN5.out, HT5.out, ?_⟩
      · simp
      · have e : m - (1 + (Ct.subs 0 (show Ct 0 from (tn, tc))).length) = M := by rw [HMM.out]; rfl
        rw [e]
        exact HL5.out
  | false =>
    cases j with
    | zero => exact absurd HX.out (fun h => by cases h)
    | succ j =>
      have hks : cs = leads (j := j) t := by have := HX.out; rw [page_succ] at this; cases this; rfl
      have HKS := Lib.hid hks
      have hcl := (cells_len HOK.out).1
      simp only at hcl
      have HN1 : Hid (0 < cs.length) := by
        have := HS.out.n1 (by omega)
        rw [Hid, hks, leads_len]
        exact this
      have hdj := HDEP.out
      have hmj := HM.out
      have hj200 : j + 1 ≤ 200 := by omega
      clear hks hdj hmj HX HDEP
      have q5 := (Below.refl W.heap.size W).alloc (Nat.le_refl _) (.cells #[] 81)
      have q6 := q5.alloc q5.size (.cells #[] 3)
      have hma : (W.alloc (.cells #[] 81)).ownsRow W.heap.size 81 2 (.slice (some ⟨W.heap.size, 0, none⟩) 0 0) 0 [] := World.ownsRow_made W #[] 0 (Nat.le_refl _) (by simp [maxLen]) (by simp)
      have R0 : Hid (ShSt gl m (j := j) t W ((W.alloc (.cells #[] 81)).alloc (.cells #[] 3)) (.slice (some ⟨w2.heap.size + 1, 0, none⟩) 0 0) (.slice (some ⟨w2.heap.size + 1 + 1, 0, none⟩) 0 0) 0) := by
        rw [← hwsz]
        refine ⟨Turn.of_below q6, ?_, own_hold hma ((Below.refl _ _).alloc (Nat.le_refl _) _), [], by simp, Ow.made _ _ _ q5.size (by simp)⟩
        have e : m - 1 - (subsL (j := j) (List.take 0 t)).length = M := by rw [HMM.out]; simp [subsL]
        rw [e]
        exact HL4.out.later q6
      clear q5 q6 hma HL3 HB3 HT3 HCS2 HL1 HB1 HT1
      go_wp2_with fail
      go_loopw [14, 15, 16, 17] (fun lv iv dv nv wr => ∃ (A1 A3 : Option Addr) (n1 k1 n3 k3 a dp : Nat), lv = .slice A1 n1 k1 ∧ iv = .slice A3 n3 k3 ∧ dv = .int .i64 (dp : Int) ∧ nv = .int .i64 (a : Int) ∧ a ≤ cs.length ∧ Hid (a = 0 ∧ dp = 0 ∨ 0 < a ∧ dp = j + 1) ∧ Hid (ShSt gl m (j := j) t W wr (.slice A1 n1 k1) (.slice A3 n3 k3) a)) (fun _ _ _ nv _ => cs.length - (intOf nv).toNat)
      case atStart => exact ⟨_, _, _, _, _, _, 0, 0, rfl, rfl, rfl, rfl, by omega, .inl ⟨rfl, rfl⟩, R0⟩
      case round =>
        obtain ⟨A1, A3, n1, k1, n3, k3, a, dp, rfl, rfl, rfl, rfl, ha, HDP, HST⟩ := hrel
        have hWs := HST.out.T.size
        have hgx : w2.heap.size ≠ gl := by omega
        have hbx := HX4.out.turn HST.out.T hgx
        have xr2 : wr.cell? ⟨w2.heap.size, 2, none⟩ = some (.slice A2 cs.length c2) := hbx.cell 2
        by_cases hal : a < cs.length
        · obtain ⟨K, ID, tk, hk⟩ := kidAt_of HS.out HKS.out hal
          have HK := Lib.hid hk
          have hid := hk.id
          have hcsr : Cs (fun b => w.heap.size ≤ b ∧ b < w2.heap.size) wr (.slice A2 cs.length c2) cs := Sl.keep HCS4.out fun b o hb' => World.cell?_of_block (HST.out.T.block b (by have := hb'.2; omega) (by have := hb'.1; omega))
          have HCR := Lib.hid hcsr
          obtain ⟨bb, oo, rfl⟩ := hcsr.some (by omega)
          have f := Cs.get hcsr hal
          rw [hk.cell hal] at f
          obtain ⟨f1, f2⟩ := f
          simp only at f1 f2
          have hv10 : (varB ID).length ≤ 10 := varB_le10 (by unfold U64; omega)
          have hg := getVarB_varB (x := ID) (by unfold U64; omega) []
          rw [List.append_nil] at hg
          have HG : Hid (refVal (getVarB (varB ID)) = .returned (.tuple #[.int .u64 (ID : Int), .int .i64 ((varB ID).length : Int), .int .i64 0])) := by rw [Hid, hg]; rfl
          clear hg hk hcsr hbx
          generalize hV : varB ID = V at *
          clear hV
          have hid90 : decide ((90 : Int) < (ID : Int)) = false := decide_eq_false (by omega)
          have hidw : IntKind.i64.wrap (ID : Int) = (ID : Int) := i64_inp (by omega) (by omega)
          go_wp2_with fail
          refine (refGetVar_any V wr (by omega)).mono ?_
          rintro e w9 ⟨he, rfl⟩
          rw [HG.out] at he
          subst he
          clear HG
          go_wp2_with fail
          refine (ih j rfl tk ID (m - 1 - (subsL (j := j) (List.take a t)).length) wr (Turn.below HB4.out HST.out.T HB4.out.size (fun b h => by omega)) HST.out.left HK.out.inn (by have h1 := HK.out.subsT; have h2 := HK.out.le; have h3 := HM.out; rw [subs_succ] at h3; omega) (by omega)).mono ?_
          rintro e w3 ⟨A5, k5, A6, k6, n6, is, rfl, hcs5, hisl, rfl, hsl6, hT3, hl3⟩
          obtain ⟨C, hC⟩ : ∃ C, Ct.cells j tk = C := ⟨_, rfl⟩
          have hlo := HK.out.lo
          have hhi := HK.out.hi
          have hbk := HK.out.bdk
          have hsle := HK.out.le
          have hsub := HK.out.subsT
          have hmm3 := HM.out
          rw [subs_succ] at hmm3
          rw [hC] at hcs5 hlo hhi hbk ⊢
          have HCC := Lib.hid hC
          have hw3 := hT3.size
          have hb3 := (HX4.out.turn HST.out.T hgx).turn hT3 hgx
          have xr3 : w3.cell? ⟨w2.heap.size, 2, none⟩ = some (.slice (some ⟨bb, oo, none⟩) cs.length c2) := hb3.cell 2
          have hcs3 : Cs (fun b => w.heap.size ≤ b ∧ b < w2.heap.size) w3 (.slice (some ⟨bb, oo, none⟩) cs.length c2) cs := Sl.keep HCR.out fun b o hb' => World.cell?_of_block (hT3.block b (by have := hb'.2; omega) (by have := hb'.1; omega))
          have HCS3 := Lib.hid hcs3
          have g1 := (Cs.get hcs3 hal).1
          rw [HK.out.cell hal] at g1
          simp only at g1
          have D3 := Lib.hid (fun n => below_drewN (Below.refl w3.heap.size w3) n)
          have O3 := Lib.hid (fun n => (own_hold (own_turnd HST.out.own hT3 (fun b h1 h2 => by omega)) (D3.out n) : Co (w3.drewN n) W.heap.size (.slice A1 n1 k1) (cellsL (j := j) (List.take a t))))
          obtain ⟨is1, his1, hids1⟩ := HST.out.ids
          have HI1 := Lib.hid his1
          have I3 := Lib.hid (fun n => (own_hold (own_turnd hids1 hT3 (fun b h1 h2 => by omega)) (D3.out n) : Ow 3 (w3.drewN n) W.heap.size (.slice A3 n3 k3) (il is1)))
          have HC5 := Lib.hid (fun n => Sl.drewN hcs5 n)
          have HL5 := Lib.hid (fun n => hl3.later (D3.out n))
          have HS6 := Lib.hid (fun n => Sl.drewN hsl6 n)
          have HT5 := Lib.hid (fun n => (HST.out.T.trans hT3 (fun b h => .inl h)).trans (Turn.of_below (F := fun b => b = gl) (D3.out n)) (fun b h => .inl h))
          have hWb : Hid (∀ n, W.heap.size ≤ (w3.drewN n).heap.size) := fun n => Nat.le_trans hWs hw3
          have hClen : C.length ≤ 204800 := by omega
          have hislen : is1.length + is.length ≤ 200 := by omega
          have hbd1 := HK.out.bd
          have hcl1 : (cellsL (List.take a t)).length ≤ 204800 := by omega
          have HBB : Hid (∀ b, W.heap.size ≤ b → b < wr.heap.size → ¬ (wr.heap.size ≤ b)) := fun b _ h => by omega
          clear hC hcs3 hb3 hids1 hT3 hcs5 hl3 hsl6 f1 f2 xr2 hbd1 hbk hsle hsub hmm3 his1
          have aw : IntKind.i64.wrap ((a : Int) + 1) = (a : Int) + 1 := i64_inp (by omega) (by omega)
          have hcase : Hid (decide ((0 : Int) < (a : Int)) = false ∧ decide (0 < a) = false ∧ dp = 0 ∨ decide ((0 : Int) < (a : Int)) = true ∧ decide (0 < a) = true ∧ dp = j + 1) := by
            rcases HDP.out with ⟨ha0, rfl⟩ | ⟨ha0, rfl⟩
            · exact .inl ⟨decide_eq_false (by omega), decide_eq_false (by omega), rfl⟩
            · exact .inr ⟨decide_eq_true (by omega), decide_eq_true (by omega), rfl⟩
          by_cases hC0 : C.length = 0
          · obtain rfl : C = [] := List.length_eq_zero_iff.1 hC0
            clear hC0 hlo hhi
            rcases hcase.out with ⟨a0, a0', rfl⟩ | ⟨a0, a0', rfl⟩
            · skip
              go_wp2_with fail
              go_quiet (fail)
              go_wp2_with (at_builtin; (first | (refine wpList_append_sl _ rfl (.tmp 165) (.tmp 166) elemCel rfl (O3.out _) (HC5.out _) rfl rfl (ccs_one _) (by simp only [maxLen]; omega) (by omega) (hWb.out _) ?_; intro A7 n7 k7 w7 ho7 hg7 hat7; have i7 := own_by (I3.out _) (O3.out _) (by decide) hg7; have s7 := Sl.grown (HS6.out _) hg7 (fun b h => h.2) (fun b hb e => by have h1 := (HST.out.own.lt b e.symm).2; have h2 := hb.1; omega); have z7 := Nat.le_trans (hWb.out _) hg7.size) | (refine wpList_append_sl _ rfl (.tmp 168) (.tmp 169) elemIntT rfl i7 s7 rfl rfl (il_one _) (by simp only [maxLen]; rw [il_len]; omega) (by rw [il_len]; omega) z7 ?_; intro A8 n8 k8 w8 ho8 hg8 hat8)))
              have R1 : Hid (ShSt gl m (j := j) t W w8 (.slice A7 n7 k7) (.slice A8 n8 k8) (a + 1)) := HST.out.go HK.out (by omega) (HT5.out _) (HL5.out _) HI1.out hisl (O3.out _) (I3.out _) (by rw [HCC.out]; exact ho7) hg7 ho8 hg8
              clear hat7 hat8 i7 s7 ho7 ho8 hg7 hg8
              go_wp2_with fail
              go_roundw
              case rel => exact ⟨A7, A8, n7, k7, n8, k8, a + 1, j + 1, rfl, rfl, rfl, by go_num, by omega, .inr ⟨by omega, rfl⟩, R1⟩
              case measure => simp [intOf]; omega
            · skip
              go_wp2_with fail
              go_quiet (fail)
              go_wp2_with (at_builtin; (first | (refine wpList_append_sl _ rfl (.tmp 165) (.tmp 166) elemCel rfl (O3.out _) (HC5.out _) rfl rfl (ccs_one _) (by simp only [maxLen]; omega) (by omega) (hWb.out _) ?_; intro A7 n7 k7 w7 ho7 hg7 hat7; have i7 := own_by (I3.out _) (O3.out _) (by decide) hg7; have s7 := Sl.grown (HS6.out _) hg7 (fun b h => h.2) (fun b hb e => by have h1 := (HST.out.own.lt b e.symm).2; have h2 := hb.1; omega); have z7 := Nat.le_trans (hWb.out _) hg7.size) | (refine wpList_append_sl _ rfl (.tmp 168) (.tmp 169) elemIntT rfl i7 s7 rfl rfl (il_one _) (by simp only [maxLen]; rw [il_len]; omega) (by rw [il_len]; omega) z7 ?_; intro A8 n8 k8 w8 ho8 hg8 hat8)))
              have R1 : Hid (ShSt gl m (j := j) t W w8 (.slice A7 n7 k7) (.slice A8 n8 k8) (a + 1)) := HST.out.go HK.out (by omega) (HT5.out _) (HL5.out _) HI1.out hisl (O3.out _) (I3.out _) (by rw [HCC.out]; exact ho7) hg7 ho8 hg8
              clear hat7 hat8 i7 s7 ho7 ho8 hg7 hg8
              go_wp2_with fail
              go_roundw
              case rel => exact ⟨A7, A8, n7, k7, n8, k8, a + 1, j + 1, rfl, rfl, rfl, by go_num, by omega, .inr ⟨by omega, rfl⟩, R1⟩
              case measure => simp [intOf]; omega
          · have n5 : 0 < C.length := by omega
            have hcs5' := HC5.out 0
            obtain ⟨b5, o5, rfl⟩ := Cs.some hcs5' n5
            obtain ⟨L5, hL5⟩ : ∃ L5, L5 = C.length - 1 := ⟨_, rfl⟩
            have hL5b : L5 < C.length := by omega
            have e0 : w3.cell? ⟨b5, o5, none⟩ = some (.string (st C[0].1)) := (Cs.get hcs5' n5).1
            have e1 : w3.cell? ⟨b5, o5 + L5 * 2, none⟩ = some (.string (st C[L5].1)) := (Cs.get hcs5' hL5b).1
            have lo0 := hlo _ (List.getElem_mem n5)
            have HHI := Lib.hid (fun h => hhi h _ (List.getElem_mem hL5b))
            generalize C[0].1 = x0 at *
            generalize C[L5].1 = x1 at *
            have d1 : decide ((0 : Int) < (C.length : Int)) = true := decide_eq_true (by omega)
            have d1' : decide (0 < C.length) = true := decide_eq_true n5
            have lw : IntKind.i64.wrap ((C.length : Int) - 1) = (L5 : Int) := by
              rw [i64_inp (by omega) (by omega)]
              omega
            have HL5L := Lib.hid hL5
            clear hC0 hlo hhi hcs5' hL5
            by_cases ha1 : a + 1 < cs.length
            · have hk2 := (Cs.get HCS3.out ha1).1
              have hb2 := HHI.out ha1
              generalize cs[a + 1].1 = K2 at *
              have q1 : decide ((a : Int) + 1 < (cs.length : Int)) = true := decide_eq_true (by omega)
              have q1' : decide (a + 1 < cs.length) = true := decide_eq_true ha1
              rcases hcase.out with ⟨a0, a0', rfl⟩ | ⟨a0, a0', rfl⟩
              · skip
                go_wp2_with fail
                go_quiet (fail)
                go_wp2_with (at_builtin; (first | (refine wpList_append_sl _ rfl (.tmp 165) (.tmp 166) elemCel rfl (O3.out _) (HC5.out _) rfl rfl (ccs_one _) (by simp only [maxLen]; omega) (by omega) (hWb.out _) ?_; intro A7 n7 k7 w7 ho7 hg7 hat7; have i7 := own_by (I3.out _) (O3.out _) (by decide) hg7; have s7 := Sl.grown (HS6.out _) hg7 (fun b h => h.2) (fun b hb e => by have h1 := (HST.out.own.lt b e.symm).2; have h2 := hb.1; omega); have z7 := Nat.le_trans (hWb.out _) hg7.size) | (refine wpList_append_sl _ rfl (.tmp 168) (.tmp 169) elemIntT rfl i7 s7 rfl rfl (il_one _) (by simp only [maxLen]; rw [il_len]; omega) (by rw [il_len]; omega) z7 ?_; intro A8 n8 k8 w8 ho8 hg8 hat8)))
                have R1 : Hid (ShSt gl m (j := j) t W w8 (.slice A7 n7 k7) (.slice A8 n8 k8) (a + 1)) := HST.out.go HK.out (by omega) (HT5.out _) (HL5.out _) HI1.out hisl (O3.out _) (I3.out _) (by rw [HCC.out]; exact ho7) hg7 ho8 hg8
                clear hat7 hat8 i7 s7 ho7 ho8 hg7 hg8
                go_wp2_with fail
                go_roundw
                case rel => exact ⟨A7, A8, n7, k7, n8, k8, a + 1, j + 1, rfl, rfl, rfl, by go_num, by omega, .inr ⟨by omega, rfl⟩, R1⟩
                case measure => simp [intOf]; omega
              · skip
                go_wp2_with fail
                go_quiet (fail)
                go_wp2_with (at_builtin; (first | (refine wpList_append_sl _ rfl (.tmp 165) (.tmp 166) elemCel rfl (O3.out _) (HC5.out _) rfl rfl (ccs_one _) (by simp only [maxLen]; omega) (by omega) (hWb.out _) ?_; intro A7 n7 k7 w7 ho7 hg7 hat7; have i7 := own_by (I3.out _) (O3.out _) (by decide) hg7; have s7 := Sl.grown (HS6.out _) hg7 (fun b h => h.2) (fun b hb e => by have h1 := (HST.out.own.lt b e.symm).2; have h2 := hb.1; omega); have z7 := Nat.le_trans (hWb.out _) hg7.size) | (refine wpList_append_sl _ rfl (.tmp 168) (.tmp 169) elemIntT rfl i7 s7 rfl rfl (il_one _) (by simp only [maxLen]; rw [il_len]; omega) (by rw [il_len]; omega) z7 ?_; intro A8 n8 k8 w8 ho8 hg8 hat8)))
                have R1 : Hid (ShSt gl m (j := j) t W w8 (.slice A7 n7 k7) (.slice A8 n8 k8) (a + 1)) := HST.out.go HK.out (by omega) (HT5.out _) (HL5.out _) HI1.out hisl (O3.out _) (I3.out _) (by rw [HCC.out]; exact ho7) hg7 ho8 hg8
                clear hat7 hat8 i7 s7 ho7 ho8 hg7 hg8
                go_wp2_with fail
                go_roundw
                case rel => exact ⟨A7, A8, n7, k7, n8, k8, a + 1, j + 1, rfl, rfl, rfl, by go_num, by omega, .inr ⟨by omega, rfl⟩, R1⟩
                case measure => simp [intOf]; omega
            · have q1 : decide ((a : Int) + 1 < (cs.length : Int)) = false := decide_eq_false (by omega)
              have q1' : decide (a + 1 < cs.length) = false := decide_eq_false ha1
              rcases hcase.out with ⟨a0, a0', rfl⟩ | ⟨a0, a0', rfl⟩
              · skip
                go_wp2_with fail
                go_quiet (fail)
                go_wp2_with (at_builtin; (first | (refine wpList_append_sl _ rfl (.tmp 165) (.tmp 166) elemCel rfl (O3.out _) (HC5.out _) rfl rfl (ccs_one _) (by simp only [maxLen]; omega) (by omega) (hWb.out _) ?_; intro A7 n7 k7 w7 ho7 hg7 hat7; have i7 := own_by (I3.out _) (O3.out _) (by decide) hg7; have s7 := Sl.grown (HS6.out _) hg7 (fun b h => h.2) (fun b hb e => by have h1 := (HST.out.own.lt b e.symm).2; have h2 := hb.1; omega); have z7 := Nat.le_trans (hWb.out _) hg7.size) | (refine wpList_append_sl _ rfl (.tmp 168) (.tmp 169) elemIntT rfl i7 s7 rfl rfl (il_one _) (by simp only [maxLen]; rw [il_len]; omega) (by rw [il_len]; omega) z7 ?_; intro A8 n8 k8 w8 ho8 hg8 hat8)))
                have R1 : Hid (ShSt gl m (j := j) t W w8 (.slice A7 n7 k7) (.slice A8 n8 k8) (a + 1)) := HST.out.go HK.out (by omega) (HT5.out _) (HL5.out _) HI1.out hisl (O3.out _) (I3.out _) (by rw [HCC.out]; exact ho7) hg7 ho8 hg8
                clear hat7 hat8 i7 s7 ho7 ho8 hg7 hg8
                go_wp2_with fail
                go_roundw
                case rel => exact ⟨A7, A8, n7, k7, n8, k8, a + 1, j + 1, rfl, rfl, rfl, by go_num, by omega, .inr ⟨by omega, rfl⟩, R1⟩
                case measure => simp [intOf]; omega
              · skip
                go_wp2_with fail
                go_quiet (fail)
                go_wp2_with (at_builtin; (first | (refine wpList_append_sl _ rfl (.tmp 165) (.tmp 166) elemCel rfl (O3.out _) (HC5.out _) rfl rfl (ccs_one _) (by simp only [maxLen]; omega) (by omega) (hWb.out _) ?_; intro A7 n7 k7 w7 ho7 hg7 hat7; have i7 := own_by (I3.out _) (O3.out _) (by decide) hg7; have s7 := Sl.grown (HS6.out _) hg7 (fun b h => h.2) (fun b hb e => by have h1 := (HST.out.own.lt b e.symm).2; have h2 := hb.1; omega); have z7 := Nat.le_trans (hWb.out _) hg7.size) | (refine wpList_append_sl _ rfl (.tmp 168) (.tmp 169) elemIntT rfl i7 s7 rfl rfl (il_one _) (by simp only [maxLen]; rw [il_len]; omega) (by rw [il_len]; omega) z7 ?_; intro A8 n8 k8 w8 ho8 hg8 hat8)))
                have R1 : Hid (ShSt gl m (j := j) t W w8 (.slice A7 n7 k7) (.slice A8 n8 k8) (a + 1)) := HST.out.go HK.out (by omega) (HT5.out _) (HL5.out _) HI1.out hisl (O3.out _) (I3.out _) (by rw [HCC.out]; exact ho7) hg7 ho8 hg8
                clear hat7 hat8 i7 s7 ho7 ho8 hg7 hg8
                go_wp2_with fail
                go_roundw
                case rel => exact ⟨A7, A8, n7, k7, n8, k8, a + 1, j + 1, rfl, rfl, rfl, by go_num, by omega, .inr ⟨by omega, rfl⟩, R1⟩
                case measure => simp [intOf]; omega
        · obtain rfl : a = cs.length := by omega
          have hne := HN1.out
          have hdp : dp = j + 1 := by rcases HDP.out with ⟨h, _⟩ | ⟨_, h⟩ <;> omega
          subst hdp
          have hall : List.take cs.length t = t := List.take_of_length_le (by rw [HKS.out, leads_len]; exact Nat.le_refl _)
          have hown := HST.out.own
          have hlft := HST.out.left
          obtain ⟨is, his, hids⟩ := HST.out.ids
          rw [hall] at hown hlft his
          obtain rfl := own_len hown
          obtain rfl := own_len hids
          have HOW := Lib.hid hown
          have HLF := Lib.hid hlft
          have HIS := Lib.hid his
          have HID := Lib.hid hids
          have d1 : decide ((0 : Int) < (cs.length : Int)) = true := decide_eq_true (by omega)
          have d1' : decide (0 < cs.length) = true := decide_eq_true hne
          have dw : IntKind.i64.wrap (((j + 1 : Nat) : Int) + 1) = ((j + 1 + 1 : Nat) : Int) := by
            rw [i64_inp (by omega) (by omega)]
            omega
          clear hall hown hlft his hids hne
          go_wp2_with fail
          go_quiet (fail)
          go_wp2_with fail
          (try simp only [Exit.inBlock, Exit.then])
          refine bodyPost_ret (results_tmp4 rfl _ _ _) rfl ?_
          have hWB : w.heap.size ≤ W.heap.size := by omega
          refine ⟨A1, k1, A3, k3, is.length, is, ?_, ?_, ?_, rfl, ?_, ?_, ?_⟩
          · rw [il_len]
            rfl
          · exact (Sl.drewN HOW.out.cs _).more fun b h => ⟨Nat.le_trans hWB h.1, h.2⟩
          · have := HIS.out
            show is.length ≤ 1 + (subsL (j := j) t).length
            omega
          · have h1 := Sl.drewN HID.out.sl
            rw [il_len] at h1
            exact (h1 _).more fun b h => ⟨Nat.le_trans hWB h.1, h.2⟩
          · exact (HT4.out.trans HST.out.T (fun b h => .inl h)).trans (Turn.of_below (F := fun b => b = gl) (below_drewN (Below.refl _ _) _)) (fun b h => .inl h)
          · have e : m - (1 + (Ct.subs (j + 1) t).length) = m - 1 - (subsL (j := j) t).length := by
              show m - (1 + (subsL (j := j) t).length) = _
              omega
            rw [e]
            exact HLF.out.drewN _
theorem shape_any (gl g : Nat) (Z : Pz) (P : Pgr) (c : Int → List UInt8) (wB : World) (ht : Tg wB g Z P c) (hgl : wB.heap.size ≤ gl) : ∀ j, ShCall gl Z P c wB j
  | 0 => shape_step gl g Z P c wB ht hgl 0 fun j' h => by cases h
  | j + 1 => shape_step gl g Z P c wB ht hgl (j + 1) fun j' h => by
      obtain rfl : j = j' := by omega
      exact shape_any gl g Z P c wB ht hgl j
end Go.Proofs.YthbhkdhljlganaaGreatDoor
