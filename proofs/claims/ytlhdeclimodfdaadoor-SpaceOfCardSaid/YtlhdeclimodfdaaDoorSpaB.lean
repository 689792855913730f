/- (*space.Space).Bytes: what it returns. -/
import Derived.Test.YtlhdeclimodfdaaDoorSpaA
import Derived.Test.YtlhdeclimodfdaaDoorCodA
import Derived.Deep.RegionWith
import Derived.StillTactics
import Derived.OwnWalk
import Derived.Deep.RegionHeld3
namespace Go.Proofs.YtlhdeclimodfdaaDoor
open Go Go.RowKit
set_option linter.unusedVariables false

/-- The runs of flags: bytes, the run that is open, its flag. -/
def putS (s : List UInt8 × Nat × Bool) (b : Bool) : List UInt8 × Nat × Bool := if b = s.2.2 then (s.1, s.2.1 + 1, s.2.2) else (s.1 ++ varB s.2.1, 1, b)
def runS (l : List Bool) : List UInt8 × Nat × Bool := l.foldl putS (varB l.length, 0, false)
def spB (l : List Bool) : List UInt8 := (runS l).1 ++ varB (runS l).2.1
theorem putS_run (l : List Bool) : ∀ s : List UInt8 × Nat × Bool, (l.foldl putS s).2.1 ≤ s.2.1 + l.length := by
  induction l with
  | nil => intro s; simp
  | cons b l ih =>
    intro s
    rw [List.foldl_cons, List.length_cons]
    have h := ih (putS s b)
    have : (putS s b).2.1 ≤ s.2.1 + 1 := by unfold putS; split <;> simp
    omega
theorem putS_len (l : List Bool) : ∀ s : List UInt8 × Nat × Bool, s.2.1 + l.length < 128 ^ 9 → (l.foldl putS s).1.length ≤ s.1.length + 10 * l.length := by
  induction l with
  | nil => intro s _; simp
  | cons b l ih =>
    intro s hs
    rw [List.foldl_cons, List.length_cons]
    simp only [List.length_cons] at hs
    have h1 : (putS s b).2.1 ≤ s.2.1 + 1 := by unfold putS; split <;> simp
    have h := ih (putS s b) (by omega)
    have h2 : (putS s b).1.length ≤ s.1.length + 10 := by
      unfold putS
      split
      · simp
      · have := varB_le 9 s.2.1 (Nat.lt_trans (by omega : s.2.1 < 128 ^ 9) (by decide))
        simp; omega
    omega

/-- The closure's variables and the writer. -/
structure StB (w : World) (B bt bw br gw : Nat) (s : List UInt8 × Nat × Bool) : Prop where
  taken : Blk w bt 4 #[.bool s.2.2]
  ptr : Blk w bw 68 #[.pointer (some ⟨gw, 0, none⟩)]
  run : Blk w br 51 #[.int .u64 (s.2.1 : Int)]
  wr : Wr w gw B s.1
theorem Wr.blk {w : World} {g B : Nat} {l : List UInt8} (h : Wr w g B l) : ∃ cs, Blk w g 83 cs := by
  obtain ⟨A, k, c, h1, _⟩ := h
  exact ⟨_, h1⟩

set_option maxHeartbeats 1000000 in
set_option maxRecDepth 100000 in
theorem bput_any (B bt bw br gw : Nat) (s : List UInt8 × Nat × Bool) (b : Bool) (w : World) (hs : StB w B bt bw br gw s) (hB : B ≤ w.heap.size) (h1 : B ≤ bt) (h2 : B ≤ bw) (h3 : B ≤ br) (h4 : B ≤ gw) (hr : s.2.1 ≤ 1000000) (hl : s.1.length ≤ 1000000000) :
    Calls Tryd.prog 34 #[.bool b, .pointer (some ⟨bt, 0, none⟩), .pointer (some ⟨bw, 0, none⟩), .pointer (some ⟨br, 0, none⟩)] w fun e w' => e = .returned (.tuple #[]) ∧ StB w' B bt bw br gw (putS s b) ∧ Below B w w' := by
  obtain ⟨l, r, t⟩ := s
  obtain ⟨ht, hp, hrn, hw⟩ := hs
  simp only at ht hrn hw hr hl
  have c1 : w.cell? ⟨bt, 0, none⟩ = some (.bool t) := ht.cell 0
  have c2 : w.cell? ⟨bw, 0, none⟩ = some (.pointer (some ⟨gw, 0, none⟩)) := hp.cell 0
  have c3 : w.cell? ⟨br, 0, none⟩ = some (.int .u64 (r : Int)) := hrn.cell 0
  by_cases hbt : b = t
  · subst hbt
    have hf := hrn.free 0
    have HP : Hid (putS (l, r, b) b = (l, r + 1, b)) := by unfold putS; rw [if_pos rfl]; rfl
    go_enter Tryd.func34, Tryd.ntmps34
    cases b
    all_goals
      go_wp2_with fail
      go_end0
      rw [HP.out]
      refine ⟨rfl, ⟨ht.far (p := ⟨br, 0, none⟩) (Blk.ne ht hrn (by decide)) _, hp.far (p := ⟨br, 0, none⟩) (Blk.ne hp hrn (by decide)) _, ?_, hw.far hrn (by decide) (by decide) 0 _⟩, (Below.refl _ _).setCell h3 _⟩
      have := hrn.put1 (.int .u64 ((r + 1 : Nat) : Int))
      rw [show (((r + 1 : Nat)) : Int) = (r : Int) + 1 from rfl] at this
      exact this
  · have HP : Hid (putS (l, r, t) b = (l ++ varB r, 1, b)) := by unfold putS; rw [if_neg hbt]; rfl
    obtain ⟨cs, hwb⟩ := hw.blk
    have n1 : bt ≠ gw := Blk.ne ht hwb (by decide)
    have n2 : bw ≠ gw := Blk.ne hp hwb (by decide)
    have n3 : br ≠ gw := Blk.ne hrn hwb (by decide)
    have n4 : bt ≠ br := Blk.ne ht hrn (by decide)
    have n5 : bw ≠ br := Blk.ne hp hrn (by decide)
    have n6 : bw ≠ bt := Blk.ne hp ht (by decide)
    have hgw := hwb.lt
    have hsl : Sl (fun b => b ≠ gw ∧ b < (w.alloc (.cells #[.int .u64 (r : Int)] 51)).heap.size) (w.alloc (.cells #[.int .u64 (r : Int)] 51)) 1 (.slice (some ⟨w.heap.size, 0, none⟩) 1 1) [r].length (nums [r]) := by
      refine ⟨by simp [nums], _, 1, rfl, by simp, by simp [maxLen], (fun h => by cases h), fun _ => ⟨_, 0, rfl, ⟨by omega, by simp⟩, fun j u hu => ?_⟩⟩
      rcases j with _ | j
      · simp [nums] at hu
        subst hu
        rw [World.cell?_alloc_new]
        rfl
      · simp [nums] at hu
    have HSL := Lib.hid hsl
    have HBT : Hid (b = !t) := by cases b <;> cases t <;> first | rfl | exact absurd rfl hbt
    have tb : (b != t) = true := by rw [bne_iff_ne]; exact hbt
    have tb2 : (b == t) = false := by rw [beq_eq_false_iff_ne]; exact hbt
    have hr64 : r < U64 := by unfold U64; omega
    clear hsl hbt hwb
    go_enter Tryd.func34, Tryd.ntmps34
    go_wp2_with fail
    refine (wnum_any gw B l [r] _ _ (hw.alloc _) (by simp; omega) h4 (by intro x hx; simp at hx; subst hx; exact hr64) (by simp; omega) HSL.out).mono ?_
    rintro e w1 ⟨rfl, hw1, hg1⟩
    have ht1 := (ht.alloc (.cells #[.int .u64 (r : Int)] 51)).grown hg1 (by simpa using n1.symm)
    have hp1 := (hp.alloc (.cells #[.int .u64 (r : Int)] 51)).grown hg1 (by simpa using n2.symm)
    have hr1 := (hrn.alloc (.cells #[.int .u64 (r : Int)] 51)).grown hg1 (by simpa using n3.symm)
    have hbl1 : Below B w w1 := ((Below.refl _ _).alloc hB _).trans (grown_below hg1 h4 (by simp; omega))
    simp only [List.flatMap_cons, List.flatMap_nil, List.append_nil] at hw1
    have f1 := ht1.free 0
    have f3 := hr1.free 0
    have e1 : w1.cell? ⟨bt, 0, none⟩ = some (.bool t) := ht1.cell 0
    have e3 : w1.cell? ⟨br, 0, none⟩ = some (.int .u64 (r : Int)) := hr1.cell 0
    clear hg1 HSL
    go_wp2_with fail
    go_end0
    rw [HP.out]
    have ht2 := ht1.far (p := ⟨br, 0, none⟩) n4 (.int .u64 0)
    have hp2 := hp1.far (p := ⟨br, 0, none⟩) n5 (.int .u64 0)
    have hr2 := hr1.put1 (.int .u64 0)
    have hw2 := hw1.far hr1 (by decide) (by decide) 0 (.int .u64 0)
    have ht3 := ht2.put1 (.bool b)
    have hp3 := hp2.far (p := ⟨bt, 0, none⟩) n6 (.bool b)
    have hr3 := hr2.far (p := ⟨bt, 0, none⟩) n4.symm (.bool b)
    have hw3 := hw2.far ht2 (by decide) (by decide) 0 (.bool b)
    exact ⟨rfl, ⟨ht3.far (p := ⟨br, 0, none⟩) n4 _, hp3.far (p := ⟨br, 0, none⟩) n5 _, hr3.put1 _, hw3.far hr3 (by decide) (by decide) 0 _⟩, ((hbl1.setCell h3 _).setCell h1 _).setCell h3 _⟩

theorem runS_take_succ {l : List Bool} {i : Nat} (h : i < l.length) (s : List UInt8 × Nat × Bool) : (l.take (i + 1)).foldl putS s = putS ((l.take i).foldl putS s) l[i] := by
  rw [List.take_succ_eq_append_getElem h, List.foldl_append]; rfl

set_option maxHeartbeats 2000000 in
set_option maxRecDepth 100000 in
theorem spbytes_any (g : Nat) (l : List Bool) (w : World) (hs : Sp w g l) :
    Calls Tryd.prog 18 #[.pointer (some ⟨g, 0, none⟩)] w fun e w' => ∃ A k c, e = .returned (.slice A k c) ∧ Ob 5 w' w.heap.size (.slice A k c) (spB l) ∧ Below w.heap.size w w' := by
  have HS := Lib.hid hs
  have hmf := run_makeFunc Tryd.prog
  have hg := hs.1.lt
  obtain ⟨hb, hl1, hl2⟩ := hs
  clear hb
  go_enter Tryd.func18, Tryd.ntmps18
  go_wp2_with fail
  refine (write_any w).mono ?_
  rintro e w1 ⟨rfl, hw1, hbl1, hsz1⟩
  have HS1 := Lib.hid (HS.out.later hbl1)
  have hw2 := Lib.hid (hw1.alloc (.cells #[.pointer (some ⟨w.heap.size, 0, none⟩)] 68))
  have HS2 := Lib.hid (HS1.out.later ((Below.refl _ _).alloc (Nat.le_refl _) (.cells #[.pointer (some ⟨w.heap.size, 0, none⟩)] 68)))
  have q2 := Lib.hid (below_chain hbl1 ((Below.refl _ _).alloc (Nat.le_refl _) (.cells #[.pointer (some ⟨w.heap.size, 0, none⟩)] 68)))
  have hc0 : (w1.alloc (.cells #[.pointer (some ⟨w.heap.size, 0, none⟩)] 68)).cell? ⟨g, 0, none⟩ = some (.int .i64 (l.length : Int)) := ((HS1.out.1.alloc _).cell 0)
  go_wp2_with fail
  generalize hW2 : (w1.alloc (.cells #[.pointer (some ⟨w.heap.size, 0, none⟩)] 68)) = W2 at *
  have hp2 : Blk W2 (w.heap.size + 1) 68 #[.pointer (some ⟨w.heap.size, 0, none⟩)] := by
    rw [← hW2, ← hsz1]
    exact Blk.new _ _ _
  have hq0 : W2.cell? ⟨w.heap.size + 1, 0, none⟩ = some (.pointer (some ⟨w.heap.size, 0, none⟩)) := hp2.cell 0
  clear hW2
  have hwr : IntKind.u64.wrap (l.length : Int) = (l.length : Int) := wrap_u64 (by omega) (by unfold U64; omega)
  have hsl : Sl (fun b => b ≠ w.heap.size ∧ b < (W2.alloc (.cells #[.int .u64 (l.length : Int)] 51)).drew.heap.size) (W2.alloc (.cells #[.int .u64 (l.length : Int)] 51)).drew 1 (.slice (some ⟨W2.heap.size, 0, none⟩) 1 1) [l.length].length (nums [l.length]) := by
    have hlt := hp2.lt
    refine ⟨by simp [nums], _, 1, rfl, by simp, by simp [maxLen], (fun h => by cases h), fun _ => ⟨_, 0, rfl, ⟨by omega, by simp⟩, fun j u hu => ?_⟩⟩
    rcases j with _ | j
    · simp [nums] at hu
      subst hu
      simp
    · simp [nums] at hu
  have HSL := Lib.hid hsl
  have HC := Lib.hid (wnum_any w.heap.size w.heap.size [] [l.length] _ (W2.alloc (.cells #[.int .u64 (l.length : Int)] 51)).drew ((hw2.out.alloc _)) (by have := q2.out.size; simp; omega) (Nat.le_refl _) (by intro x hx; simp at hx; subst hx; unfold U64; omega) (by simp) HSL.out)
  have hgl := HS2.out.1.lt
  have hpl := hp2.lt
  clear hsl
  go_region_held3 (fun w' => w'.cell? ⟨w.heap.size + 1, 0, none⟩ = some (.pointer (some ⟨w.heap.size, 0, none⟩)) ∧ w'.cell? ⟨g, 0, none⟩ = some (.int .i64 (l.length : Int)))
    (first
      | go_keep
      | (go_split_ands
         refine ⟨?_, ?_⟩
         · (rw [hg3.cell_far _ (by simp; omega) (by simp)]; assumption)
         · (rw [hg3.cell_far _ (by simp; omega) (by simp; omega)]; assumption)))
    ((go_at_call 33; refine HC.out.mono ?_; rintro e w3 ⟨rfl, hw3, hg3⟩))
  have hp3 : Blk w3 (w.heap.size + 1) 68 #[.pointer (some ⟨w.heap.size, 0, none⟩)] := Blk.grown (Blk.drew (hp2.alloc (.cells #[.int .u64 (l.length : Int)] 51))) hg3 (by simp)
  have q3 : Below w.heap.size w w3 := (q2.out.trans ((Below.refl _ _).alloc (by have := q2.out.size; omega) (.cells #[.int .u64 (l.length : Int)] 51))).drew.trans (grown_below (w := (W2.alloc (.cells #[.int .u64 (l.length : Int)] 51)).drew) hg3 (Nat.le_refl _) (by have := q2.out.size; simp; omega))
  have hsz3 := q3.size
  simp only [List.nil_append, List.flatMap_cons, List.flatMap_nil, List.append_nil] at hw3
  have hn128 := varB_le10 (show l.length < U64 by unfold U64; omega)
  have HR0 := Lib.hid (show ∀ i, i ≤ l.length → ((l.take i).foldl putS (varB l.length, 0, false)).2.1 ≤ 256 ∧ ((l.take i).foldl putS (varB l.length, 0, false)).1.length ≤ 2600 from fun i hi => by
    have h1 := putS_run (l.take i) (varB l.length, 0, false)
    have h2 := putS_len (l.take i) (varB l.length, 0, false) (by simp; omega)
    simp only [List.length_take] at h1 h2
    constructor <;> omega)
  have RS : StB ((w3.alloc (.cells #[.int .u64 0] 51)).alloc (.cells #[.bool false] 4)) w.heap.size (w3.heap.size + 1) (w.heap.size + 1) w3.heap.size w.heap.size ((l.take 0).foldl putS (varB l.length, 0, false)) ∧ Below w.heap.size w ((w3.alloc (.cells #[.int .u64 0] 51)).alloc (.cells #[.bool false] 4)) := by
    refine ⟨⟨?_, (hp3.alloc _).alloc _, (Blk.new w3 _ _).alloc _, (hw3.alloc _).alloc _⟩, (q3.alloc hsz3 _).alloc (by simp; omega) _⟩
    have := Blk.new (w3.alloc (.cells #[.int .u64 0] 51)) 4 #[.bool false]
    simpa using this
  have HS3 := Lib.hid (HS.out.1.below q3 hg)
  clear hg3 hc0 hq0 hgl hpl HSL HC HS1 HS2 hw2 hw1 hbl1 hp3 hw3 hp2
  have hc3 : w3.cell? ⟨g, 0, none⟩ = some (.int .i64 (l.length : Int)) := HS3.out.cell 0
  have hg3' : g < w3.heap.size := by omega
  go_wp2_with fail
  go_loopw [7, 24] (fun _ iv wr => ∃ i : Nat, iv = .int .i64 (i : Int) ∧ i ≤ l.length ∧ StB wr w.heap.size (w3.heap.size + 1) (w.heap.size + 1) w3.heap.size w.heap.size ((l.take i).foldl putS (varB l.length, 0, false)) ∧ Below w.heap.size w wr) (fun _ iv _ => l.length - (intOf iv).toNat)
  case atStart => exact ⟨0, rfl, by omega, RS⟩
  case round =>
    obtain ⟨i, rfl, hi, hst, hbl⟩ := hrel
    clear RS
    have hsz := hbl.size
    obtain ⟨hr256, hl2600⟩ := HR0.out i hi
    by_cases hil : i < l.length
    · have hsp : Sp wr g l := ⟨HS.out.1.below hbl hg, HS.out.2⟩
      have HSt := Lib.hid hst
      have HSP := Lib.hid hsp
      have HH := Lib.hid (hasB_nat l i)
      have HD : Hid (l.getD i false = l[i]) := by rw [Hid, List.getD_eq_getElem?_getD, List.getElem?_eq_getElem hil]; rfl
      have HN := Lib.hid (runS_take_succ hil (varB l.length, 0, false))
      clear hst hsp
      go_wp2_with fail
      refine (has_any g l i wr HSP.out (by omega)).mono ?_
      rintro e w4 ⟨rfl, rfl⟩
      rw [HH.out, HD.out]
      go_wp2_with fail
      refine (bput_any w.heap.size (w3.heap.size + 1) (w.heap.size + 1) w3.heap.size w.heap.size _ l[i] wr HSt.out hsz (by omega) (by omega) (by omega) (Nat.le_refl _) (by omega) (by omega)).mono ?_
      rintro e w5 ⟨rfl, hst5, hbl5⟩
      go_wp2
      go_roundw
      case rel => exact ⟨i + 1, by go_num, by omega, by rw [HN.out]; exact hst5, hbl.trans hbl5⟩
      case measure => simp [intOf]; omega
    · obtain rfl : i = l.length := by omega
      rw [List.take_length] at hst hr256 hl2600
      have c2 : wr.cell? ⟨w.heap.size + 1, 0, none⟩ = some (.pointer (some ⟨w.heap.size, 0, none⟩)) := hst.ptr.cell 0
      have c3 := hst.run.cell 0
      have hplt := hst.ptr.lt
      have HW := Lib.hid hst.wr
      have HP := Lib.hid hst.ptr
      have HB : Hid ((l.foldl putS (varB l.length, 0, false)).1 ++ varB (l.foldl putS (varB l.length, 0, false)).2.1 = spB l) := rfl
      generalize (l.foldl putS (varB l.length, 0, false)).1 = bs at *
      generalize (l.foldl putS (varB l.length, 0, false)).2.1 = r at *
      clear hst
      have c3' : wr.cell? ⟨w3.heap.size, 0, none⟩ = some (.int .u64 (r : Int)) := c3
      clear c3
      have hsl : Sl (fun b => b ≠ w.heap.size ∧ b < (wr.alloc (.cells #[.int .u64 (r : Int)] 51)).heap.size) (wr.alloc (.cells #[.int .u64 (r : Int)] 51)) 1 (.slice (some ⟨wr.heap.size, 0, none⟩) 1 1) [r].length (nums [r]) := by
        refine ⟨by simp [nums], _, 1, rfl, by simp, by simp [maxLen], (fun h => by cases h), fun _ => ⟨_, 0, rfl, ⟨by omega, by simp⟩, fun j u hu => ?_⟩⟩
        rcases j with _ | j
        · simp [nums] at hu
          subst hu
          rw [World.cell?_alloc_new]
          rfl
        · simp [nums] at hu
      have HSL := Lib.hid hsl
      clear hsl
      go_wp2_with fail
      refine (wnum_any w.heap.size w.heap.size bs [r] _ _ (HW.out.alloc _) (by simp; omega) (Nat.le_refl _) (by intro x hx; simp at hx; subst hx; unfold U64; omega) (by simp; omega) HSL.out).mono ?_
      rintro e w5 ⟨rfl, hw5, hg5⟩
      have hp5 := (HP.out.alloc (.cells #[.int .u64 (r : Int)] 51)).grown hg5 (by simp)
      have q5 : Below w.heap.size w w5 := (hbl.alloc hsz (.cells #[.int .u64 (r : Int)] 51)).trans (grown_below hg5 (Nat.le_refl _) (by simp; omega))
      simp only [List.flatMap_cons, List.flatMap_nil, List.append_nil] at hw5
      rw [HB.out] at hw5
      have d2 : w5.cell? ⟨w.heap.size + 1, 0, none⟩ = some (.pointer (some ⟨w.heap.size, 0, none⟩)) := hp5.cell 0
      have hb64 : (spB l).length ≤ 1099511627776 := by
        rw [← HB.out, List.length_append]
        have := varB_le10 (show r < U64 by unfold U64; omega)
        omega
      have HW5 := Lib.hid hw5
      clear hw5 hg5 HSL HW
      go_wp2_with fail
      refine (wbytes_any w.heap.size w.heap.size (spB l) w5 HW5.out hb64).mono ?_
      rintro e w6 ⟨A6, k6, c6, rfl, hown6, hbl6⟩
      go_wp2_with fail
      go_ret
      exact ⟨A6, k6, c6, rfl, hown6.lower q5.size, q5.trans (hbl6.mono q5.size)⟩
end Go.Proofs.YtlhdeclimodfdaaDoor
