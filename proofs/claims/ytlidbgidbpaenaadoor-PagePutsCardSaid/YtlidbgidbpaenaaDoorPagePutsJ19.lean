/- What the proof of PagePuts needs, part 19. -/
import Derived.Test.YtlidbgidbpaenaaDoorPagePutsJ8
import Derived.Test.YtlidbgidbpaenaaDoorPagePutsJ16

namespace Go.Proofs.YtlidbgidbpaenaaDoor
open Go Go.RowKit
set_option linter.unusedVariables false

theorem Sl.new2 {S : Nat → Prop} (w : World) (e : TypeId) (u v : Value) {g : Nat} (hg : g = w.heap.size) (hS : S g) : Sl S (w.alloc (.cells #[u, v] e)) 1 (.slice (some ⟨g, 0, none⟩) 2 2) 2 [u, v] := by
  subst hg
  refine ⟨by simp, _, 2, rfl, by simp, by simp [maxLen], (fun h => by cases h), fun _ => ⟨_, 0, rfl, hS, fun j x hx => ?_⟩⟩
  rw [World.cell?_alloc_new, Nat.zero_add]
  simpa using hx

def flagB (b : Bool) : List UInt8 := if b then [1] else [0]
set_option maxHeartbeats 400000 in
theorem wflag_any (g B : Nat) (l : List UInt8) (b : Bool) (w : World) (hw : Wr w g B l) (hB : B ≤ w.heap.size) (hgB : B ≤ g) (hl : l.length ≤ 1000000000) :
    Calls Tryd.prog 33 #[.pointer (some ⟨g, 0, none⟩), .bool b] w fun e w' => e = .returned (.tuple #[]) ∧ Wr w' g B (l ++ flagB b) ∧ w.grownBy w' (some g) := by
  have hgl : g < w.heap.size := by obtain ⟨A, k, c, h, _⟩ := hw; exact h.lt
  have HW := Lib.hid hw
  clear hw
  cases b
  case' false =>
    have HF : Hid (varB 0 = flagB false) := by rw [Hid, varB_lo (by omega)]; rfl
    have HC := Lib.hid (wnum_any g B l [0] _ _ (HW.out.alloc (.cells #[.int .u64 0] 57)) (by simp; omega) hgB (by intro y hy; simp at hy; subst hy; unfold U64; omega) (by simp; omega) (Sl.new1 w _ _ rfl ⟨by omega, by simp⟩))
  case' true =>
    have HF : Hid (varB 1 = flagB true) := by rw [Hid, varB_lo (by omega)]; rfl
    have HC := Lib.hid (wnum_any g B l [1] _ _ (HW.out.alloc (.cells #[.int .u64 1] 57)) (by simp; omega) hgB (by intro y hy; simp at hy; subst hy; unfold U64; omega) (by simp; omega) (Sl.new1 w _ _ rfl ⟨by omega, by simp⟩))
  all_goals
    go_enter Tryd.func33, Tryd.ntmps33
    go_wp2_with fail
    refine HC.out.mono ?_
    rintro e w1 ⟨rfl, hw1, hg1⟩
    simp only [List.flatMap_cons, List.flatMap_nil, List.append_nil] at hw1
    rw [HF.out] at hw1
    go_wp2_with fail
    go_end0
    exact ⟨rfl, hw1, (below_grownBy ((Below.refl _ _).alloc (Nat.le_refl _) _) _).trans hg1⟩

def PBytesPost (leaf : Bool) (next : Int) (cs : List Cel) (w : World) (e : Ending) (w' : World) : Prop :=
  (pgChk next cs = 0 → ∃ A k c, e = .returned (.tuple #[.slice A k c, .int .i64 0]) ∧ Ob 5 w' w.heap.size (.slice A k c) (sealB (pgF leaf next cs))) ∧
  (pgChk next cs ≠ 0 → e = .returned (.tuple #[.slice none 0 0, .int .i64 (pgChk next cs : Int)])) ∧ Below w.heap.size w w'
theorem pgChk_ok {next : Int} {cs : List Cel} (h : pgChk next cs = 0) : 0 ≤ next ∧ next ≤ 256 ∧ pgSz next cs ≤ 2048 := by
  unfold pgChk at h
  split at h
  · cases h
  · rename_i h1
    split at h
    · rename_i h2; exact absurd h h2
    · split at h
      · cases h
      · rename_i h3; omega

set_option maxHeartbeats 2000000 in
set_option maxRecDepth 100000 in
theorem pgbytes_any (S : Nat → Prop) (leaf : Bool) (next : Int) (v0 : Value) (cs : List Cel) (w : World) (hbit : BitsOk w) (hn : -9223372036854775808 ≤ next ∧ next ≤ 9223372036854775807) (hm : Mid cs) (hr : Cs S w v0 cs) :
    Calls Tryd.prog 12 #[.agg #[.bool leaf, .int .i64 next, v0]] w (PBytesPost leaf next cs w) := by
  have HR := Lib.hid hr.lt
  have hlt := hr.lt
  obtain ⟨A, c, rfl, hlc, hcm, hA0, hA⟩ := hlt.at
  have HA := Lib.hid hA
  have hb := Blk.new w 24 #[.bool leaf, .int .i64 next, .slice A cs.length c]
  have q1 : Below w.heap.size w (w.alloc (.cells #[.bool leaf, .int .i64 next, .slice A cs.length c] 24)) := (Below.refl _ _).alloc (Nat.le_refl _) _
  have HRW := Lib.hid (HR.out.up q1)
  have HBT := Lib.hid hbit
  clear hA hr hlt hbit
  go_enter Tryd.func12, Tryd.ntmps12
  go_wp2_with fail
  generalize hW : w.alloc (.cells #[.bool leaf, .int .i64 next, .slice A cs.length c] 24) = W at *
  have hWs : w.heap.size < W.heap.size := hb.lt
  clear hW
  have HB := Lib.hid hb
  refine (pcheck_any _ leaf next _ cs W hn hm HRW.out).mono ?_
  rintro e w1 ⟨rfl, hbl1⟩
  have qa1 := q1.trans (hbl1.mono q1.size)
  by_cases hok : pgChk next cs = 0
  · obtain ⟨h0, h256, hsz⟩ := pgChk_ok hok
    have HOK := Lib.hid hok
    rw [hok]
    obtain ⟨nn, rfl⟩ : ∃ nn : Nat, next = (nn : Int) := ⟨next.toNat, by omega⟩
    have hFL := pgF_len leaf (nn : Int) cs
    have HFL : Hid ((pgF leaf (nn : Int) cs).length ≤ 2048) := by rw [Hid]; omega
    have HPF : Hid (pgF leaf (nn : Int) cs = flagB leaf ++ (varB nn ++ (varB cs.length ++ cs.flatMap celB))) := rfl
    have HX := Lib.hid hm.2
    have hml := hm.1
    have hb1 := HB.out.later hbl1
    have hpre : ∀ i, celsN (cs.take i) ≤ 2048 := fun i => by have := celsN_le (cs := cs) (i := i); unfold pgSz at hsz; omega
    have HPRE := Lib.hid hpre
    have hw1' : IntKind.u64.wrap (nn : Int) = (nn : Int) := wrap_u64 (by omega) (by unfold U64; omega)
    have hw2' : IntKind.u64.wrap (cs.length : Int) = (cs.length : Int) := wrap_u64 (by omega) (by unfold U64; omega)
    clear hok hFL hsz hpre hn
    go_wp2_with fail
    refine (write_any w1).mono ?_
    rintro e w2 ⟨rfl, hw2, hbl2, hs2⟩
    have r2 : Below W.heap.size W w2 := hbl1.trans (hbl2.mono hbl1.size)
    have hgW := hbl1.size
    generalize hG : w1.heap.size = G at *
    clear hG
    have hb2 := HB.out.later r2
    have e0 : w2.cell? ⟨w.heap.size, 0, none⟩ = some (.bool leaf) := hb2.cell 0
    have HW2 := Lib.hid hw2
    have hG2 : G < w2.heap.size := by omega
    clear hbl1 hbl2 hb1 hw2
    go_wp2_with fail
    refine (wflag_any G G [] leaf w2 HW2.out (by omega) (Nat.le_refl _) (by simp)).mono ?_
    rintro e w3 ⟨rfl, hw3, hg3⟩
    rw [List.nil_append] at hw3
    have r3 : Below W.heap.size W w3 := r2.trans (grown_below hg3 (by omega) r2.size)
    have hb3 := HB.out.later r3
    have e1 : w3.cell? ⟨w.heap.size, 1, none⟩ = some (.int .i64 (nn : Int)) := hb3.cell 1
    have e2 : w3.cell? ⟨w.heap.size, 2, none⟩ = some (.slice A cs.length c) := hb3.cell 2
    have hG3 : G < w3.heap.size := Nat.lt_of_lt_of_le hG2 hg3.size
    have HW3 := Lib.hid hw3
    have hfl : (flagB leaf).length = 1 := by cases leaf <;> rfl
    have hv1 := varB_le10 (show nn < U64 by unfold U64; omega)
    have hv2 := varB_le10 (show cs.length < U64 by unfold U64; omega)
    have hslx : Sl (fun b => b ≠ G ∧ b < (w3.alloc (.cells #[.int .u64 (nn : Int), .int .u64 (cs.length : Int)] 57)).heap.size) (w3.alloc (.cells #[.int .u64 (nn : Int), .int .u64 (cs.length : Int)] 57)) 1 (.slice (some ⟨w3.heap.size, 0, none⟩) 2 2) [nn, cs.length].length (nums [nn, cs.length]) := Sl.new2 w3 _ _ _ rfl ⟨by omega, by simp⟩
    have HSLX := Lib.hid hslx
    clear hg3 hw3 hslx HW2
    go_wp2_with fail
    refine (wnum_any G G (flagB leaf) [nn, cs.length] _ _ (HW3.out.alloc _) (by simp; omega) (Nat.le_refl _) (by intro y hy; simp at hy; rcases hy with rfl | rfl <;> (unfold U64; omega)) (by simp; omega) HSLX.out).mono ?_
    rintro e w4 ⟨rfl, hw4, hg4⟩
    simp only [List.flatMap_cons, List.flatMap_nil, List.append_nil] at hw4
    have r4 : Below W.heap.size W w4 := (r3.alloc r3.size _).trans (grown_below hg4 (by omega) (by have := r3.size; simp; omega))
    have hb4 := HB.out.later r4
    have e2' : w4.cell? ⟨w.heap.size, 2, none⟩ = some (.slice A cs.length c) := hb4.cell 2
    have hG4 : G < w4.heap.size := by have := hg4.size; simp at this; omega
    have R0 : Wr w4 G G (flagB leaf ++ (varB nn ++ varB cs.length) ++ (cs.take 0).flatMap celB) ∧ Below W.heap.size W w4 ∧ G < w4.heap.size := ⟨by simpa using hw4, r4, hG4⟩
    clear hg4 hw4 HSLX HW3
    go_wp2_with fail
    go_loopw [33] (fun iv wr => ∃ i : Nat, iv = .int .i64 (i : Int) ∧ i ≤ cs.length ∧ Wr wr G G (flagB leaf ++ (varB nn ++ varB cs.length) ++ (cs.take i).flatMap celB) ∧ Below W.heap.size W wr ∧ G < wr.heap.size) (fun iv _ => cs.length - (intOf iv).toNat)
    case atStart => exact ⟨0, rfl, by omega, R0⟩
    case round =>
      obtain ⟨i, rfl, hi, hwr, hbl, hGr⟩ := hrel
      clear R0
      have hsz := hbl.size
      have qr := q1.trans (hbl.mono q1.size)
      by_cases hil : i < cs.length
      · obtain ⟨b, o, rfl, hbs, hc⟩ := HA.out (by omega)
        have c0 : wr.cell? ⟨b, o + i * 2, none⟩ = some (.string (st cs[i].1)) := (qr.cell (p := ⟨b, o + i * 2, none⟩) hbs).trans (hc i hil).1
        have c1 : wr.cell? ⟨b, o + i * 2 + 1, none⟩ = some (.string (st cs[i].2)) := (qr.cell (p := ⟨b, o + i * 2 + 1, none⟩) hbs).trans (hc i hil).2
        have hx := HX.out _ (List.getElem_mem hil)
        have HS : Hid ((cs.take (i + 1)).flatMap celB = (cs.take i).flatMap celB ++ celB cs[i]) := by
          rw [Hid, List.take_succ_eq_append_getElem hil, List.flatMap_append]; simp
        have HLP : Hid (((cs.take i).flatMap celB).length ≤ 2048) := HPRE.out i
        obtain ⟨x, hx0⟩ : ∃ x, cs[i] = x := ⟨_, rfl⟩
        rw [hx0] at c0 c1 hx HS
        clear hx0 hc
        obtain ⟨k, v⟩ := x
        simp only at c0 c1 hx
        have hr5 := hbl.alloc hsz (.cells #[.string (st k), .string (st v)] 47)
        have hr6 := hr5.alloc hr5.size (.cells #[.string (st k), .string (st v)] 9)
        have HWR := Lib.hid ((hwr.alloc (.cells #[.string (st k), .string (st v)] 47)).alloc (.cells #[.string (st k), .string (st v)] 9))
        have hn4 := Blk.new wr 47 #[.string (st k), .string (st v)]
        have hslx : Sl (fun b => b ≠ G ∧ b < ((wr.alloc (.cells #[.string (st k), .string (st v)] 47)).alloc (.cells #[.string (st k), .string (st v)] 9)).heap.size) ((wr.alloc (.cells #[.string (st k), .string (st v)] 47)).alloc (.cells #[.string (st k), .string (st v)] 9)) 1 (.slice (some ⟨wr.heap.size + 1, 0, none⟩) 2 2) [k, v].length (txts [k, v]) := Sl.new2 _ _ _ _ (by simp) ⟨by omega, by simp⟩
        have HSLX := Lib.hid hslx
        clear hslx hwr
        go_wp2_with fail
        refine (wtext_any G G _ [k, v] _ _ HWR.out (by simp; omega) (Nat.le_refl _) (by intro y hy; simp at hy; rcases hy with rfl | rfl <;> omega) (by have := HLP.out; simp only [List.length_append, List.length_cons, List.length_nil]; omega) HSLX.out).mono ?_
        rintro e w5 ⟨rfl, hw5, hg5⟩
        simp only [List.flatMap_cons, List.flatMap_nil, List.append_nil] at hw5
        have r5 : Below W.heap.size W w5 := hr6.trans (grown_below hg5 (by omega) (by simp; omega))
        have hG5 : G < w5.heap.size := by have := hg5.size; simp at this; omega
        have HE5 : Hid (celB (k, v) = textB k ++ textB v) := rfl
        clear hg5
        go_wp2_with fail
        go_roundw
        case rel => exact ⟨i + 1, by go_num, by omega, by rw [HS.out, HE5.out, ← List.append_assoc]; exact hw5, r5, hG5⟩
        case measure => simp [intOf]; omega
      · obtain rfl : i = cs.length := by omega
        rw [List.take_length] at hwr
        have hwf : Wr wr G G (pgF leaf (nn : Int) cs) := by rw [HPF.out]; simpa using hwr
        have HWF := Lib.hid hwf
        have HBR := Lib.hid (HBT.out.later qr)
        clear hwr hwf
        go_wp2_with fail
        refine (wbytes_any G G (pgF leaf (nn : Int) cs) wr HWF.out (by have := HFL.out; omega)).mono ?_
        rintro e w5 ⟨A5, k5, c5, rfl, hown5, hbl5⟩
        have q5 := qr.trans (hbl5.mono qr.size)
        have HB5 := Lib.hid (HBT.out.later q5)
        have HO5 := Lib.hid hown5
        clear hown5 hbl5
        go_wp2_with fail
        refine (seal_any _ _ (pgF leaf (nn : Int) cs) w5 HB5.out (by have := HFL.out; omega) HO5.out.bs).mono ?_
        rintro e w6 ⟨A6, k6, c6, rfl, hown6, hbl6⟩
        go_wp2_with fail
        go_ret2
        exact ⟨fun _ => ⟨A6, k6, c6, rfl, hown6.lower q5.size⟩, fun h => absurd HOK.out h, q5.trans (hbl6.mono q5.size)⟩
  · have HOK := Lib.hid hok
    have t1 : ((pgChk next cs : Int) != 0) = true := by rw [bne_iff_ne]; omega
    obtain ⟨P, hP⟩ : ∃ P, pgChk next cs = P := ⟨_, rfl⟩
    have HP := Lib.hid hP
    rw [hP] at t1 ⊢
    clear hok hP
    go_wp2_with fail
    go_ret2
    exact ⟨fun h => absurd h HOK.out, fun _ => by rw [HP.out]; rfl, qa1⟩
end Go.Proofs.YtlidbgidbpaenaaDoor
