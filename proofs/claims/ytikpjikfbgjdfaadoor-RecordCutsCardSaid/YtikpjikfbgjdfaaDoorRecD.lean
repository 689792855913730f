/- The statements of layer 7: RecordCuts. -/
import Derived.Test.YtikpjikfbgjdfaaDoorRecC
import Derived.Test.YtikpjikfbgjdfaaDoorRecN
namespace Go.Proofs.YtikpjikfbgjdfaaDoor
open Go Go.RowKit
set_option linter.unusedVariables false

/-- What a round of RecordCuts holds. -/
structure CutSt (w wr : World) (va ve vw : Value) (la : List UInt8) (le : List Nat) (lw : List (Nat × List UInt8)) : Prop where
  bytes : Ob 5 wr w.heap.size va la
  ends : Ow 3 wr w.heap.size ve (il le)
  want : Ro wr w.heap.size vw lw
  below : Below w.heap.size w wr

theorem Ro.alloc {w : World} {B : Nat} {v : Value} {rs : List (Nat × List UInt8)} (h : Ro w B v rs) (o : Obj) : Ro (w.alloc o) B v rs := World.ownsRow.alloc h o
theorem ro_snoc {w : World} {B : Nat} {v : Value} {rs : List (Nat × List UInt8)} {r : Nat × List UInt8} (h : w.ownsRow B 24 2 v (rs.length + 1) (rcs rs ++ rcs [r])) : Ro w B v (rs ++ [r]) := by
  unfold Ro
  rw [rcs_append, List.length_append]
  exact h
section
variable {w W W' : World} {va ve vw va' ve' vw' : Value} {la la' : List UInt8} {le le' : List Nat} {lw lw' : List (Nat × List UInt8)}
theorem CutSt.bytesTo (h : CutSt w W va ve vw la le lw) (hg : W.grownBy W' va.ownBlock) (h' : Ob 5 W' w.heap.size va' la') : CutSt w W' va' ve vw la' le lw :=
  ⟨h', own_kept h.ends h.bytes (by decide) hg, own_kept h.want h.bytes (by decide) hg, h.below.grown hg h.below.size fun k hk => (World.ownsRow.lt h.bytes k hk).1⟩
theorem CutSt.wantTo (h : CutSt w W va ve vw la le lw) (hg : W.grownBy W' vw.ownBlock) (h' : Ro W' w.heap.size vw' lw') : CutSt w W' va ve vw' la le lw' :=
  ⟨own_kept h.bytes h.want (by decide) hg, own_kept h.ends h.want (by decide) hg, h', h.below.grown hg h.below.size fun k hk => (World.ownsRow.lt h.want k hk).1⟩
theorem CutSt.endsTo (h : CutSt w W va ve vw la le lw) (hg : W.grownBy W' ve.ownBlock) (h' : Ow 3 W' w.heap.size ve' (il le')) : CutSt w W' va ve' vw la le' lw :=
  ⟨own_kept h.bytes h.ends (by decide) hg, h', own_kept h.want h.ends (by decide) hg, h.below.grown hg h.below.size fun k hk => (World.ownsRow.lt h.ends k hk).1⟩
theorem CutSt.later (h : CutSt w W va ve vw la le lw) (hb : Below W.heap.size W W') : CutSt w W' va ve vw la le lw :=
  ⟨own_later h.bytes hb, own_later h.ends hb, own_later h.want hb, h.below.trans (hb.mono h.below.size)⟩
theorem CutSt.alloc (h : CutSt w W va ve vw la le lw) (o : Obj) : CutSt w (W.alloc o) va ve vw la le lw := h.later ((Below.refl _ _).alloc (Nat.le_refl _) _)
end
theorem il_snoc {w : World} {B n : Nat} {v : Value} {l : List Nat} (h : w.ownsRow B 3 1 v ((il l).length + 1) (il l ++ [.int .i64 (n : Int)])) : Ow 3 w B v (il (l ++ [n])) := by
  unfold Ow
  have e : il (l ++ [n]) = il l ++ [.int .i64 (n : Int)] := by simp [il]
  rw [e, List.length_append]
  exact h
theorem some_of_own {w : World} {B : Nat} {e : TypeId} {size n k c : Nat} {A : Option Addr} {xs : List Value} (h : w.ownsRow B e size (.slice A k c) n xs) (hn : 0 < n) : ∃ g, A = some ⟨g, 0, none⟩ := by
  rcases own_cases h with ⟨_, h0, _⟩ | ⟨g, hg, _⟩
  · omega
  · exact ⟨g, hg⟩

set_option maxHeartbeats 4000000 in
set_option maxRecDepth 100000 in
theorem law_RecordCuts (first : Nat) (v : Value) (ts : List (List UInt8)) (cut : Nat) (w : World) (hb : BitsOk w) (hf : first < U64) (hv : (∀ s ∈ ts, s.length ≤ 9223372036854775807) ∧ ts.length ≤ 9223372036854775807 ∧ Sl (fun b => b < w.heap.size) w 1 v ts.length (txts ts)) (hc : cut < 65536) :
    Calls Tryd.prog 7 #[.int .u64 (first : Int), v, .int .u16 (cut : Int)] w fun e w' => e = .returned (.bool true) ∧ Below w.heap.size w w' := by
  obtain ⟨_, hmx, hsl⟩ := hv
  have HS := Lib.hid hsl
  obtain ⟨_, A0, c0, rfl, hlc0, hcm0, hA00, hA0⟩ := hsl
  have HA := Lib.hid hA0
  have HB := Lib.hid hb
  clear hb hA0
  by_cases h20 : 20 < ts.length
  · go_enter Tryd.func7, Tryd.ntmps7
    go_wp2_with fail
    refine (awake7_any _ HB.out).mono ?_
    rintro e w1 ⟨rfl, hbl1⟩
    go_wp2_with fail
    go_ret
    exact ⟨rfl, hbl1⟩
  · have R0 : CutSt w (((w.alloc (.cells #[] 5)).alloc (.cells #[.int .i64 0] 3)).alloc (.cells #[] 24)) (.slice (some ⟨w.heap.size, 0, none⟩) 0 0) (.slice (some ⟨w.heap.size + 1, 0, none⟩) 1 1) (.slice (some ⟨w.heap.size + 1 + 1, 0, none⟩) 0 0)
        (allB first (ts.take 0)) (endsB first ts 0) (numbered first (ts.take 0)) := by
      refine ⟨?_, ?_, ?_, (((Below.refl _ _).alloc (Nat.le_refl _) _).alloc (by simp) _).alloc (by simp; omega) _⟩
      · have := (Ob.made 5 w w.heap.size (Nat.le_refl _) rfl)
        simpa [allB] using (this.alloc (.cells #[.int .i64 0] 3)).alloc (.cells #[] 24)
      · have : (w.alloc (.cells #[] 5)).alloc (.cells #[.int .i64 0] 3) |>.ownsRow w.heap.size 3 1 (.slice (some ⟨(w.alloc (.cells #[] 5)).heap.size, 0, none⟩) 1 1) 1 [.int .i64 0] :=
          ⟨by simp, .inr ⟨_, 1, _, rfl, by simp, heap_alloc_new _ _, Nat.le_refl _, by simp [maxLen], rfl, rfl⟩⟩
        rw [endsB_zero]
        have h2 := World.ownsRow.alloc this (.cells #[] 24)
        simpa [Ow, il] using h2
      · have := World.ownsRow_made ((w.alloc (.cells #[] 5)).alloc (.cells #[.int .i64 0] 3)) (e := 24) (size := 2) (base := w.heap.size) #[] 0 (by simp; omega) (by simp [maxLen]) (by simp)
        simpa [Ro, numbered, rcs] using this
    go_enter Tryd.func7, Tryd.ntmps7
    go_wp2_with fail
    go_loopw [7, 8, 9, 10] (fun av ev wv iv wr => ∃ (i ga ca ge ce gw cw : Nat), iv = .int .i64 (i : Int) ∧ i ≤ ts.length ∧ av = .slice (some ⟨ga, 0, none⟩) (endB first ts i) ca ∧ ev = .slice (some ⟨ge, 0, none⟩) (i + 1) ce ∧ wv = .slice (some ⟨gw, 0, none⟩) i cw ∧
      CutSt w wr (.slice (some ⟨ga, 0, none⟩) (endB first ts i) ca) (.slice (some ⟨ge, 0, none⟩) (i + 1) ce) (.slice (some ⟨gw, 0, none⟩) i cw) (allB first (ts.take i)) (endsB first ts i) (numbered first (ts.take i)) ∧ Hid (∀ t ∈ ts.take i, t.length ≤ 100)) (fun _ _ _ iv _ => ts.length - (intOf iv).toNat)
    case atStart => exact ⟨0, _, 0, _, 1, _, 0, rfl, by omega, by rw [endB_zero], rfl, rfl, by rw [endB_zero]; exact R0, by simp [Hid]⟩
    case round =>
      obtain ⟨i, ga, ca, ge, ce, gw, cw, rfl, hi, rfl, rfl, rfl, hst, h100⟩ := hrel
      clear R0
      have hsz := hst.below.size
      by_cases hil : i < ts.length
      · obtain ⟨b, o, rfl, hbl, hcell⟩ := HA.out (by omega)
        have hcs : wr.cell? ⟨b, o + i, none⟩ = some (.string (st ts[i])) := (hst.below.cell (p := ⟨b, o + i, none⟩) hbl).trans (hcell _ _ (txts_at hil))
        have HST := Lib.hid hst
        have HA2 := Lib.hid (allB_take_succ (f := first) hil)
        have HN2 := Lib.hid (numbered_take_succ (f := first) hil)
        have HE2 := Lib.hid (endsB_succ first ts i)
        have HB1 := Lib.hid (HB.out.later hst.below)
        have HT2 : Hid (ts[i].length ≤ 100 → ∀ t ∈ ts.take (i + 1), t.length ≤ 100) := fun h t ht => by
          rw [List.take_succ_eq_append_getElem hil] at ht
          rcases List.mem_append.1 ht with h' | h'
          · exact h100.out t h'
          · simp at h'; subst h'; exact h
        have HEE : Hid (endB first ts (i + 1) = (allB first (ts.take i) ++ recB ((first + i) % U64) ts[i]).length) := by rw [Hid, ← HA2.out]; rfl
        have hea := endB_le first (ts.take i) h100.out i
        have HEA : Hid (endB first (ts.take i) i = endB first ts i) := by unfold endB; rw [Hid, List.take_take, Nat.min_self]
        rw [HEA.out] at hea
        have hE0 : (allB first (ts.take i)).length = endB first ts i := rfl
        have hEnd := endsB_len first ts i
        have hNl := numbered_len (ts.take i) first
        rw [List.length_take, Nat.min_eq_left hi] at hNl
        generalize endB first ts i = ei at *
        generalize allB first (ts.take i) = la at *
        generalize numbered first (ts.take i) = lw at *
        generalize endsB first ts i = le at *
        obtain ⟨ej, hej⟩ : ∃ ej, endB first ts (i + 1) = ej := ⟨_, rfl⟩
        have HEJ := Lib.hid hej
        rw [hej] at HEE HE2
        clear hej
        generalize ts[i] = t at *
        have hwr : IntKind.u64.wrap ((first : Int) + (i : Int)) = (((first + i) % U64 : Nat) : Int) := u64_add first i
        have hq64 : (first + i) % U64 < U64 := Nat.mod_lt _ (by unfold U64; decide)
        generalize (first + i) % U64 = q at *
        clear hcell hst
        by_cases ht : t.length ≤ 100
        · have hrl : (recB q t).length ≤ 40000 := by rw [recB_len]; have := recF_len hq64 (show t.length ≤ 32768 by omega); omega
          have hr8 : 8 ≤ (recB q t).length := by rw [recB_len]; omega
          have HT3 := Lib.hid (HT2.out ht)
          have hbk := Blk.new wr 24 #[.int .u64 (q : Int), .string (st t)]
          have hbx := HST.out.below.alloc hsz (.cells #[.int .u64 (q : Int), .string (st t)] 24)
          have HBX := Lib.hid (HB.out.later hbx)
          go_wp2_with fail
          refine (rput_any q t _ hq64 HBX.out (by omega)).mono ?_
          rintro e w2 ⟨hok, _, hbl2⟩
          obtain ⟨A1, k1, c1, rfl, hown1⟩ := hok (by omega)
          clear hok
          have hbk2 := hbk.later hbl2
          have q2 := hbx.trans (hbl2.mono hbx.size)
          have hs2 := q2.size
          have hX : Below wr.heap.size wr w2 := ((Below.refl wr.heap.size wr).alloc (Nat.le_refl _) _).trans (hbl2.mono (by simp))
          have h2 := Lib.hid (HST.out.later hX)
          have HO1 := Lib.hid hown1
          have d0 : w2.cell? ⟨wr.heap.size, 0, none⟩ = some (.int .u64 (q : Int)) := hbk2.cell 0
          have d1 : w2.cell? ⟨wr.heap.size, 1, none⟩ = some (.string (st t)) := hbk2.cell 1
          have hX0 := hbk2.alloc (.cells #[.int .u64 (q : Int), .string (st t)] 24)
          have x0 : (w2.alloc (.cells #[.int .u64 (q : Int), .string (st t)] 24)).cell? ⟨wr.heap.size, 0, none⟩ = some (.int .u64 (q : Int)) := hX0.cell 0
          have x1 : (w2.alloc (.cells #[.int .u64 (q : Int), .string (st t)] 24)).cell? ⟨wr.heap.size, 1, none⟩ = some (.string (st t)) := hX0.cell 1
          clear hown1 hbl2 hbk hbx hX hcs HST
          generalize recB q t = rb at *
          go_wp2_with fail
          go_region_law (first
            | (refine step_append_bs w2 (by first | exact ⟨0, rfl⟩ | exact ⟨1, rfl⟩ | exact ⟨2, rfl⟩ | exact ⟨3, rfl⟩) rfl (.tmp 54) (.tmp 55) elemU8 rfl h2.out.bytes HO1.out.bs rfl rfl (by omega) hs2 ?_; intro A3 k3 c3 w3 hown3 hg3; have h3 := h2.out.bytesTo hg3 hown3; have hb3 := hbk2.kept h2.out.bytes hg3 (by decide); have y0 : w3.cell? ⟨wr.heap.size, 0, none⟩ = some (.int .u64 (q : Int)) := hb3.cell 0; have y1 : w3.cell? ⟨wr.heap.size, 1, none⟩ = some (.string (st t)) := hb3.cell 1)
            | (refine step_append_sl (w3.alloc (.cells #[.int .u64 (q : Int), .string (st t)] 24)) (by first | exact ⟨0, rfl⟩ | exact ⟨1, rfl⟩ | exact ⟨2, rfl⟩ | exact ⟨3, rfl⟩) rfl (.tmp 57) (.tmp 59) elemRec rfl (h3.alloc _).want (Sl.newrec (S := fun _ => True) _ (q, t) rfl trivial) rfl rfl (rcs_one _) (by simp only [maxLen]; omega) (by omega) (h3.alloc _).below.size ?_; intro A4 k4 c4 w5 hown4 hg4; have FIN := (h3.alloc (.cells #[.int .u64 (q : Int), .string (st t)] 24)).wantTo hg4 (ro_snoc hown4))
            | (refine step_append_bs (w2.alloc (.cells #[.int .u64 (q : Int), .string (st t)] 24)) (by first | exact ⟨0, rfl⟩ | exact ⟨1, rfl⟩ | exact ⟨2, rfl⟩ | exact ⟨3, rfl⟩) rfl (.tmp 54) (.tmp 55) elemU8 rfl (h2.out.alloc _).bytes (HO1.out.alloc _).bs rfl rfl (by omega) (h2.out.alloc _).below.size ?_; intro A3 k3 c3 w3 hown3 hg3; have h3 := (h2.out.alloc (.cells #[.int .u64 (q : Int), .string (st t)] 24)).bytesTo hg3 hown3)
            | (refine step_append_sl w3 (by first | exact ⟨0, rfl⟩ | exact ⟨1, rfl⟩ | exact ⟨2, rfl⟩ | exact ⟨3, rfl⟩) rfl (.tmp 57) (.tmp 59) elemRec rfl h3.want (Sl.grown (Sl.newrec (S := fun b => b = w2.heap.size) w2 (q, t) rfl rfl) hg3 (fun b hb => by subst hb; simp) (fun b hb => by subst hb; exact (own_ne (h2.out.alloc (.cells #[.int .u64 (q : Int), .string (st t)] 24)).bytes (Blk.new w2 _ _) (by decide)).symm)) rfl rfl (rcs_one _) (by simp only [maxLen]; omega) (by omega) h3.below.size ?_; intro A4 k4 c4 w5 hown4 hg4; have FIN := h3.wantTo hg4 (ro_snoc hown4))
            | (refine step_append_sl (w2.alloc (.cells #[.int .u64 (q : Int), .string (st t)] 24)) (by first | exact ⟨0, rfl⟩ | exact ⟨1, rfl⟩ | exact ⟨2, rfl⟩ | exact ⟨3, rfl⟩) rfl (.tmp 57) (.tmp 59) elemRec rfl (h2.out.alloc _).want (Sl.newrec (S := fun _ => True) _ (q, t) rfl trivial) rfl rfl (rcs_one _) (by simp only [maxLen]; omega) (by omega) (h2.out.alloc _).below.size ?_; intro A4 k4 c4 w4 hown4 hg4; have h4 := (h2.out.alloc (.cells #[.int .u64 (q : Int), .string (st t)] 24)).wantTo hg4 (ro_snoc hown4))
            | (refine step_append_bs w4 (by first | exact ⟨0, rfl⟩ | exact ⟨1, rfl⟩ | exact ⟨2, rfl⟩ | exact ⟨3, rfl⟩) rfl (.tmp 54) (.tmp 55) elemU8 rfl h4.bytes (Ob.bs (own_kept (HO1.out.alloc _) (h2.out.alloc (.cells #[.int .u64 (q : Int), .string (st t)] 24)).want (by decide) hg4)) rfl rfl (by omega) h4.below.size ?_; intro A3 k3 c3 w5 hown3 hg3; have FIN := h4.bytesTo hg3 hown3))
          all_goals
            obtain ⟨g3, rfl⟩ := some_of_own FIN.bytes (by rw [List.length_append]; omega)
            obtain ⟨g4, rfl⟩ := some_of_own FIN.want (by simp)
            obtain rfl : k3 = ej := (own_len FIN.bytes).trans HEE.out.symm
            obtain rfl : k4 = i + 1 := (own_len FIN.want).trans (by rw [List.length_append, hNl]; rfl)
            have HF := Lib.hid FIN
            clear FIN
            go_wp2_with (at_builtin; refine wpList_append_sl _ rfl (.tmp 61) (.tmp 64) elemInt rfl (HF.out.alloc _).ends (Sl.new1 (S := fun _ => True) _ _ _ rfl trivial) rfl rfl (by intro y hy; simp at hy; subst hy; rfl) (by simp only [maxLen, il_len]; omega) (by simp only [il_len]; omega) (HF.out.alloc _).below.size ?_; intro A6 k6 c6 w6 hown6 hg6 hat6)
            go_roundw
            case rel =>
              obtain rfl : k6 = i + 1 + 1 := (own_len hown6).trans (by rw [il_len, hEnd])
              obtain ⟨g6, rfl⟩ := some_of_own hown6 (by omega)
              have hfin := (HF.out.alloc _).endsTo hg6 (il_snoc hown6)
              rw [← HE2.out, ← HA2.out, ← HN2.out] at hfin
              exact ⟨i + 1, g3, c3, g6, c6, g4, c4, by go_num, by omega, by rw [HEJ.out], rfl, rfl, by rw [HEJ.out]; exact hfin, HT3⟩
            case measure => simp [intOf]; omega
        · have ht' : 100 < t.length := by omega
          go_wp2_with fail
          refine (awake7_any _ HB1.out).mono ?_
          rintro e w1 ⟨rfl, hbl1⟩
          go_wp2_with fail
          go_ret
          exact ⟨rfl, HST.out.below.trans (hbl1.mono hsz)⟩
      · obtain rfl : i = ts.length := by omega
        rw [List.take_length] at hst h100
        have HST := Lib.hid hst
        have HALL := Lib.hid (endB_all first ts)
        have hEle := endB_le first ts h100.out ts.length
        have HW := Lib.hid (fun k n => wholeB_of k first ts n)
        have HCUT := Lib.hid (fun n h => recScan_cut ts first n n (fun t ht => by have := h100.out t ht; omega) h (Nat.le_refl _))
        have HEN := Lib.hid (endsB_len first ts ts.length)
        have HEG := Lib.hid (fun k (h : k ≤ ts.length) => endsB_at (f := first) (ts := ts) h)
        have HNL := Lib.hid (numbered_len ts first)
        have hE0 : Hid (endB first ts 0 = 0) := endB_zero first ts
        have hn : cut % (endB first ts ts.length + 1) ≤ endB first ts ts.length := by have := Nat.mod_lt cut (show 0 < endB first ts ts.length + 1 by omega); omega
        have hrem : ((cut : Int)).tmod ((endB first ts ts.length : Int) + 1) = ((cut % (endB first ts ts.length + 1) : Nat) : Int) := by
          rw [show ((endB first ts ts.length : Int) + 1) = ((endB first ts ts.length + 1 : Nat) : Int) by omega, ← Int.ofNat_tmod]
        clear hst h100
        generalize endB first ts ts.length = N at *
        generalize hn' : cut % (N + 1) = n at *
        have hwc : IntKind.i64.wrap (cut : Int) = (cut : Int) := IntWalk.i64_in _ (by omega)
        go_wp2_with fail
        have HC : Hid (∀ k, k ≤ ts.length → wr.cell? ⟨ge, k, none⟩ = some (.int .i64 (endB first ts k : Int))) := fun k hk => by
          obtain ⟨g', c', hv, _, _, hcells, _⟩ := Ow.open HST.out.ends (by rw [il_len, HEN.out]; omega)
          injection hv with hv _ _
          injection hv with hv
          injection hv with hv
          subst hv
          have hkl : k < (il (endsB first ts ts.length)).length := by rw [il_len, HEN.out]; omega
          rw [hcells k hkl, il_at hkl, HEG.out k hk]
        obtain ⟨wo, hwo⟩ : ∃ wo : World, wo = wr := ⟨_, rfl⟩
        subst hwo
        go_loop [15] (fun kv => ∃ k : Nat, kv = .int .i64 (k : Int) ∧ k ≤ ts.length ∧ Hid (endB first ts k ≤ n)) (fun kv => ts.length - (intOf kv).toNat)
        case atStart => exact ⟨0, rfl, by omega, by rw [Hid, hE0.out]; omega⟩
        case round =>
          obtain ⟨k, rfl, hk, hkn⟩ := hrel
          by_cases hkt : k < ts.length ∧ endB first ts (k + 1) ≤ n
          · have hc1 := HC.out (k + 1) hkt.1
            have hc2 := hkt.2
            have hc3 := hkt.1
            clear hkt
            obtain ⟨ek, hek⟩ : ∃ ek, endB first ts (k + 1) = ek := ⟨_, rfl⟩
            have HEK := Lib.hid hek
            rw [hek] at hc1 hc2
            clear hek
            have HK2 := Lib.hid hc2
            go_wp2_with fail
            go_round
            case rel => exact ⟨k + 1, by go_num, by omega, by rw [Hid, HEK.out]; exact HK2.out⟩
            case measure => simp [intOf]; omega
          · have HWK := Lib.hid (HW.out k n hk hkn.out (fun h => by have := fun h2 => hkt ⟨h, h2⟩; omega))
            have hle := hkn.out
            have HND := Lib.hid (show ((allB first ts).take n).length = n by rw [List.length_take, ← HALL.out]; omega)
            have hsc := rscan_any (fun b => w.heap.size ≤ b ∧ b < wo.heap.size) (.slice (some ⟨ga, 0, none⟩) n ca) ((allB first ts).take n) first wo (by rw [HND.out]; omega) hf (by
              have h := HST.out.bytes.bs
              rw [HALL.out] at h
              exact Bs.pre h (by rw [← HALL.out]; exact hn))
            rw [HND.out, HCUT.out n (by rw [← HALL.out]; exact hn), HWK.out] at hsc
            have HSC := Lib.hid hsc
            have hca : N ≤ ca := by
              rcases own_cases HST.out.bytes with ⟨h, _⟩ | ⟨g, _, h⟩
              · cases h
              · rw [HALL.out]; exact h
            have hcw : ts.length ≤ cw := by
              rcases own_cases HST.out.want with ⟨h, _⟩ | ⟨g, _, h⟩
              · cases h
              · rw [HNL.out] at h; exact h
            have hck := HC.out k hk
            have HB2 := Lib.hid (HB.out.later HST.out.below)
            have hsw := HST.out.below.size
            have HVL := Lib.hid (show ((numbered first ts).take k).length = k by rw [List.length_take, HNL.out]; omega)
            have hx1 : k < ts.length → n < endB first ts (k + 1) := fun h => by have := fun h2 => hkt ⟨h, h2⟩; omega
            clear hkt hsc
            rcases Nat.lt_or_ge k ts.length with hkl | hkl
            case' inl =>
              have hc1 := HC.out (k + 1) hkl
              have hx2 := hx1 hkl
              clear hx1
              generalize endB first ts (k + 1) = ek at *
            case' inr =>
              clear hx1
              obtain rfl : k = ts.length := by omega
            all_goals
              generalize endB first ts _ = E at *
              go_wp2_with fail
              refine HSC.out.mono ?_
              rintro e w3 ⟨A3, k3, c3, rfl, hro3, hbl3⟩
              have HST3 := Lib.hid (HST.out.later hbl3)
              have HB3 := Lib.hid (HB2.out.later hbl3)
              have hck3 := cell_later hbl3 hck
              have HR3 := Lib.hid hro3
              clear hro3 hbl3
              go_wp2_with fail
              refine (awake7_any w3 HB3.out).mono ?_
              rintro e w4 ⟨rfl, hbl4⟩
              have hst4 := HST3.out.later hbl4
              have HR4 := Lib.hid (HR3.out.later hbl4)
              have hck4 := cell_later hbl4 hck3
              have HS4 := Lib.hid (by
                have h := Sl.of_own (size := 2) (by omega) hst4.want
                rw [HNL.out] at h
                have h2 := Sl.pre h hk
                rw [rcs_take] at h2
                exact h2)
              have q4 := hst4.below
              clear hbl4 hst4
              go_wp2_with fail
              refine (rsame_any _ _ _ _ _ _ w4 (Sl.of_own (by omega) HR4.out) (by rw [HVL.out]; exact HS4.out)).mono ?_
              rintro e w5 ⟨rfl, n5, rfl⟩
              rw [decide_eq_true rfl]
              go_wp2_with fail
              go_ret
              exact ⟨rfl, below_drewN q4 _⟩
end Go.Proofs.YtikpjikfbgjdfaaDoor
