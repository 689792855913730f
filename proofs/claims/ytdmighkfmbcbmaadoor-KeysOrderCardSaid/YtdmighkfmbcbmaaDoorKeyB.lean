/- keys.Get, End, In; lapstoneref04: what they return. -/
import Derived.Test.YtdmighkfmbcbmaaDoorKeyA
import Derived.Test.YtdmighkfmbcbmaaDoorNumB
import Derived.Test.YtdmighkfmbcbmaaDoorCut
namespace Go.Proofs.YtdmighkfmbcbmaaDoor
open Go Go.RowKit
set_option linter.unusedVariables false

theorem notB_u64 (n : Nat) (h : n < U64) : 18446744073709551615 - n < U64 := by unfold U64; omega

theorem Bs.oneB (w : World) (e : TypeId) (b : UInt8) {g : Nat} (hg : g = w.heap.size) : Bs (fun b => b = w.heap.size) (w.alloc (.cells #[.int .u8 (b.toNat : Int)] e)) (.slice (some ⟨g, 0, none⟩) 1 1) [b] :=
  Bs.lit w e [b] (by simp [maxLen]) (0, 0) hg
/-- What the bytes are: a key and what stands for its timestamp, or none. -/
def kgetV : Option (List UInt8 × Nat) → Value
  | some (k, d) => .tuple #[.string (st k), .int .u64 ((18446744073709551615 - d : Nat) : Int), .int .i64 0]
  | none => .tuple #[.string (st []), .int .u64 0, .int .i64 40]

set_option maxHeartbeats 400000 in
theorem kget_short (A : Option Addr) (n c : Nat) (w : World) (h : n < 10) :
    Calls Tryd.prog 12 #[.slice A n c] w fun e w' => e = .returned (kgetV none) ∧ w = w' := by
  go_enter Tryd.func12, Tryd.ntmps12
  go_wp2_with fail
  go_ret3
  exact ⟨rfl, rfl⟩

theorem tail_two (s : List UInt8) (h : 10 ≤ s.length) : ((s.drop (s.length - 10)).take 2).length = 2 := by rw [List.length_take, List.length_drop]; omega

set_option maxHeartbeats 1000000 in
set_option maxRecDepth 100000 in
theorem kget_any (S : Nat → Prop) (v0 : Value) (s : List UInt8) (w : World) (hl : s.length ≤ 1099511627776) (hr : Bs S w v0 s) :
    Calls Tryd.prog 12 #[v0] w fun e w' => e = .returned (kgetV (keyGet s)) ∧ Below w.heap.size w w' := by
  have HR : Hid (Bs (fun b => b < w.heap.size) w v0 s) := (Sl.lt hr (by omega)).more (fun _ h => h.2)
  obtain ⟨A, c, rfl, hlc, hcm, hA0, hA⟩ := hr.at
  by_cases h10 : s.length < 10
  · have HG : Hid (keyGet s = none) := by unfold keyGet; rw [if_pos h10]; rfl
    refine (kget_short A s.length c w h10).mono ?_
    rintro e w1 ⟨rfl, rfl⟩
    rw [HG.out]
    exact ⟨rfl, Below.refl _ _⟩
  · obtain ⟨b, o, rfl, _, _⟩ := hA (by omega)
    clear hA hA0 hr
    obtain ⟨n, hn⟩ : ∃ n, s.length = n + 10 := ⟨s.length - 10, by omega⟩
    have hbt : Bs (fun b => b < w.heap.size) w (.slice (some ⟨b, o + n, none⟩) 2 (c - n)) ((s.drop n).take 2) := by
      have h := Bs.cut HR.out (show n ≤ s.length by omega)
      rw [if_neg (by omega), ← List.length_drop] at h
      exact Bs.pre h (by rw [List.length_drop]; omega)
    have hb8 : Bs (fun b => b < w.heap.size) w (.slice (some ⟨b, o + (n + 2), none⟩) 8 (c - (n + 2))) (s.drop (n + 2)) := by
      have h := Bs.cut HR.out (show n + 2 ≤ s.length by omega)
      rw [if_neg (by omega), show s.length - (n + 2) = 8 by omega] at h
      exact h
    have cv := run_string_of_bs (P := Tryd.prog) hbt tB tU tS
    have HB8 := Lib.hid hb8
    have l8 : (s.drop (n + 2)).length = 8 := by rw [List.length_drop]; omega
    have L8 := Lib.hid l8
    have HS := Lib.hid hn
    have l1 : (⟨#[0, 1]⟩ : ByteArray) = st [0, 1] := rfl
    have g1 : n + 10 ≤ c := by omega
    have g2 : n + 10 ≤ 1099511627776 := by omega
    rw [hn]
    by_cases h01 : (s.drop n).take 2 = [0, 1]
    · have HG : Hid (keyGet s = match unkey (s.take n) with | some k => if k.length ≤ 64 then some (k, deB ((s.drop (n + 2)).take 8)) else none | none => none) := by
        unfold keyGet
        rw [if_neg h10, hn, Nat.add_sub_cancel, if_pos h01, List.take_of_length_le (l := s.drop (n + 2)) (by omega), show n + 10 - 8 = n + 2 by omega]
        rfl
      have hd8 : deB ((s.drop (n + 2)).take 8) < U64 := by
        have := deB_take_lt (s.drop (n + 2)) 8
        unfold U64
        exact Nat.lt_of_lt_of_le this (by decide)
      have HT := Lib.hid (u64_not _ hd8)
      have hbn : Bs (fun b => b < w.heap.size) w (.slice (some ⟨b, o, none⟩) n n) (s.take n) := by
        obtain ⟨_, c', hv, h3, h4, h5, h6⟩ := (Bs.pre HR.out (show n ≤ s.length by omega)).at
        injection hv with hA _ _
        subst hA
        have hln : (s.take n).length = n := by rw [List.length_take]; omega
        have := Bs.mk_ (S := fun b => b < w.heap.size) (w := w) (l := s.take n) (A := some ⟨b, o, none⟩) (c := n) (by omega) (by simp only [maxLen]; omega) (fun h => by cases h) h6
        rwa [hln] at this
      have HBN := Lib.hid hbn
      rw [h01] at cv
      clear h01 hbt hb8 l8 h10 hlc hl hbn hd8
      generalize hdv : deB ((s.drop (n + 2)).take 8) = d8 at *
      have HDV := Lib.hid hdv
      clear hdv
      have g3 : n + 10 - (n + 2) = 8 := by omega
      clear hn
      go_enter Tryd.func12, Tryd.ntmps12
      go_wp2_with fail
      refine (get_ok _ _ (s.drop (n + 2)) 8 w (by omega) (by omega) (by rw [L8.out]; omega) (by rw [L8.out]; omega) HB8.out).mono ?_
      rintro e w2 ⟨A2, k2, c2, rfl, _, hbl2⟩
      rw [HDV.out]
      have hs2 := hbl2.size
      have HR2 : Hid (Bs (fun b => b < w.heap.size) w2 (.slice (some ⟨b, o, none⟩) n n) (s.take n)) := Sl.below HBN.out hbl2 (fun _ h => h)
      clear cv
      go_wp2_with fail
      go_loopw [9, 10] (fun kv rv_ wr => ∃ (A : Option Addr) (k c : Nat) (A' : Option Addr) (m : Nat) (key r : List UInt8), kv = .slice A k c ∧ rv_ = .slice A' m m ∧ r.length = m ∧ key.length + m ≤ n ∧ Ob 5 wr w.heap.size (.slice A k c) key ∧ Bs (fun b => b < w.heap.size) wr (.slice A' m m) r ∧ Hid (unkey (s.take n) = (unkey r).map (key ++ ·)) ∧ Below w.heap.size w wr) (fun _ rv_ _ => (match rv_ with | .slice _ m _ => m | _ => 0))
      case atStart => exact ⟨none, 0, 0, some ⟨b, o, none⟩, n, [], s.take n, rfl, rfl, by rw [List.length_take, HS.out]; omega, by simp, Ob.nil _ _ _, HR2.out, by simp [Hid], hbl2⟩
      case round =>
        obtain ⟨A, k, c1, A', m, key, r, rfl, rfl, hm, hkm, hown, hbr, HU, hbl⟩ := hrel
        have hsz := hbl.size
        obtain rfl := hown.len
        cases r with
        | nil =>
          obtain rfl : m = 0 := by simpa using hm.symm
          have HF : Hid (keyGet s = if key.length ≤ 64 then some (key, d8) else none) := by
            rw [Hid, HG.out, HU.out, unkey_nil]
            simp
          clear hm hbr HU HG
          by_cases h64 : key.length ≤ 64
          · have t1 : ¬ (64 : Int) < (key.length : Int) := by omega
            have cvk := run_string_of_bs (P := Tryd.prog) hown.bs tB tU tS
            go_wp2_with fail
            go_ret3
            rw [HF.out, if_pos h64, HT.out]
            exact ⟨rfl, hbl⟩
          · have t1 : (64 : Int) < (key.length : Int) := by omega
            go_wp2_with fail
            go_ret3
            rw [HF.out, if_neg h64]
            exact ⟨rfl, hbl⟩
        | cons x r =>
          subst hm
          obtain ⟨_, _, hv, _, _, _, hA⟩ := hbr.at
          obtain ⟨b', o', hA', hb', hcell⟩ := hA (by simp)
          injection hv with e1 _ e2
          subst e1 e2 hA'
          have hc0 := hcell 0 (by simp)
          have hcw : w.cell? ⟨b', o', none⟩ = some (.int .u8 (x.toNat : Int)) := by
            have := hbl.cell (p := ⟨b', o', none⟩) hb'
            rw [← this]
            exact hc0
          have hcut1 := Lib.hid (Bs.cut hbr (k := 1) (by simp))
          have hx256 := x.toNat_lt
          have hkl : key.length ≤ n := by omega
          clear hA hc0
          by_cases hx0 : x.toNat = 0
          · have hxz : x = 0 := UInt8.toNat_inj.1 hx0
            have z0 : ((x.toNat : Int) != 0) = false := by rw [hx0]; rfl
            have hcr : wr.cell? ⟨b', o', none⟩ = some (.int .u8 (x.toNat : Int)) := (hbl.cell (p := ⟨b', o', none⟩) hb').trans hcw
            have HOw := Lib.hid hown
            cases r with
            | nil =>
              have HGn : Hid (keyGet s = none) := by rw [Hid, HG.out, HU.out, hxz, unkey_zero1]; rfl
              clear HU hcell hbr hx0 hxz hown HG hcut1
              go_wp2_with (at_builtin; (refine wpList_append_bs _ rfl (.tmp 41) (.tmp 45) elemU8 rfl (HOw.out.alloc _) (Bs.oneB wr _ x rfl) rfl rfl (by simp; omega) (by simp; omega) ?_); intro A3 k3 c3 w3 hown3 hg3 hat3; have hbl3 := below_grown_own (hbl.alloc hsz _) (HOw.out.alloc _) hg3 (by simp; omega); have hc3 := (hbl3.cell (p := ⟨b', o', none⟩) hb').trans hcw; clear hcr)
              go_ret3
              rw [HGn.out]
              exact ⟨rfl, hbl3⟩
            | cons y r =>
              have hcw1 : w.cell? ⟨b', o' + 1, none⟩ = some (.int .u8 (y.toNat : Int)) := (hbl.cell (p := ⟨b', o' + 1, none⟩) hb').symm.trans (hcell 1 (by simp))
              have hcut2 := Lib.hid (Bs.cut hbr (k := 2) (by simp))
              have hy256 := y.toNat_lt
              by_cases hy : y.toNat = 255
              · have hyz : y = 255 := UInt8.toNat_inj.1 hy
                have z1 : ((y.toNat : Int) == 255) = true := by rw [hy]; rfl
                have HU2 : Hid (unkey (s.take n) = (unkey r).map ((key ++ [x]) ++ ·)) := by
                  rw [Hid, HU.out, hxz, hyz, unkey_zero, if_pos rfl]
                  cases unkey r <;> simp
                clear HU hcell hbr hx0 hxz hown hcut1 hy hyz
                go_wp2_with (at_builtin; (refine wpList_append_bs _ rfl (.tmp 41) (.tmp 45) elemU8 rfl (HOw.out.alloc _) (Bs.oneB wr _ x rfl) rfl rfl (by simp; omega) (by simp; omega) ?_); intro A3 k3 c3 w3 hown3 hg3 hat3; have hbl3 := below_grown_own (hbl.alloc hsz _) (HOw.out.alloc _) hg3 (by simp; omega); have hc3 := (hbl3.cell (p := ⟨b', o', none⟩) hb').trans hcw; have hc4 := (hbl3.cell (p := ⟨b', o' + 1, none⟩) hb').trans hcw1; clear hcr)
                go_roundw
                case rel =>
                  have hbr3 : Bs (fun b => b < w.heap.size) w3 (.slice (if r = [] then some ⟨b', o', none⟩ else some ⟨b', o' + 2, none⟩) r.length r.length) r := by
                    have h := Sl.keep hcut2.out (w' := w3) (fun b o hb => (hbl3.cell (p := ⟨b, o, none⟩) hb).trans (hbl.cell (p := ⟨b, o, none⟩) hb).symm)
                    unfold Bs
                    simpa using h
                  exact ⟨A3, k3, c3, _, _, key ++ [x], r, rfl, rfl, rfl, by simp at hkm ⊢; omega, hown3, hbr3, HU2, hbl3⟩
                case measure => simp; omega
              · have z1 : ((y.toNat : Int) == 255) = false := by rw [beq_eq_false_iff_ne]; omega
                have HGn : Hid (keyGet s = none) := by rw [Hid, HG.out, HU.out, hxz, unkey_zero, if_neg (fun h => hy (by rw [h]; rfl))]; rfl
                clear HU hcell hbr hx0 hxz hown HG hcut1 hcut2 hy
                go_wp2_with (at_builtin; (refine wpList_append_bs _ rfl (.tmp 41) (.tmp 45) elemU8 rfl (HOw.out.alloc _) (Bs.oneB wr _ x rfl) rfl rfl (by simp; omega) (by simp; omega) ?_); intro A3 k3 c3 w3 hown3 hg3 hat3; have hbl3 := below_grown_own (hbl.alloc hsz _) (HOw.out.alloc _) hg3 (by simp; omega); have hc3 := (hbl3.cell (p := ⟨b', o', none⟩) hb').trans hcw; have hc4 := (hbl3.cell (p := ⟨b', o' + 1, none⟩) hb').trans hcw1; clear hcr)
                go_ret3
                rw [HGn.out]
                exact ⟨rfl, hbl3⟩
          · have z0 : ((x.toNat : Int) != 0) = true := by rw [bne_iff_ne]; omega
            have HU2 : Hid (unkey (s.take n) = (unkey r).map ((key ++ [x]) ++ ·)) := by
              rw [Hid, HU.out, unkey_some (fun h => hx0 (by rw [h]; rfl))]
              cases unkey r <;> simp
            have hcr : wr.cell? ⟨b', o', none⟩ = some (.int .u8 (x.toNat : Int)) := (hbl.cell (p := ⟨b', o', none⟩) hb').trans hcw
            clear HU hcell hbr hx0
            have HOw := Lib.hid hown
            clear hown
            go_wp2_with (at_builtin; (refine wpList_append_bs _ rfl (.tmp 41) (.tmp 45) elemU8 rfl (HOw.out.alloc _) (Bs.oneB wr _ x rfl) rfl rfl (by simp; omega) (by simp; omega) ?_); intro A3 k3 c3 w3 hown3 hg3 hat3; have hbl3 := below_grown_own (hbl.alloc hsz _) (HOw.out.alloc _) hg3 (by simp; omega); have hc3 := (hbl3.cell (p := ⟨b', o', none⟩) hb').trans hcw; clear hcr)
            go_roundw
            case rel =>
              have hbr3 : Bs (fun b => b < w.heap.size) w3 (.slice (if r = [] then some ⟨b', o', none⟩ else some ⟨b', o' + 1, none⟩) r.length r.length) r := by
                have h := Sl.keep hcut1.out (w' := w3) (fun b o hb => (hbl3.cell (p := ⟨b, o, none⟩) hb).trans (hbl.cell (p := ⟨b, o, none⟩) hb).symm)
                unfold Bs
                simpa using h
              exact ⟨A3, k3, c3, _, _, key ++ [x], r, rfl, rfl, rfl, by simp at hkm ⊢; omega, hown3, hbr3, HU2, hbl3⟩
            case measure => simp
    · have HG : Hid (keyGet s = none) := by unfold keyGet; rw [if_neg h10, hn, Nat.add_sub_cancel, if_neg h01]; rfl
      have tt : ((s.drop n).take 2 == [0, 1]) = false := by rw [beq_eq_false_iff_ne]; exact h01
      clear h01 hbt hb8 l8 hn h10 hlc hl
      go_enter Tryd.func12, Tryd.ntmps12
      go_wp2_with fail
      go_ret3
      rw [HG.out]
      exact ⟨rfl, Below.refl _ _⟩

set_option maxHeartbeats 400000 in
set_option maxRecDepth 100000 in
/-- The document's bytes of a key. -/
theorem refKey_any (l : List UInt8) (w : World) (hl : l.length ≤ 1099511627776) :
    Calls Tryd.prog 27 #[.string (st l)] w fun e w' => e = .returned (.string (st (keyB l ++ [0, 1]))) ∧ w = w' := by
  have he : Hid ((⟨#[]⟩ : ByteArray) = st []) := st_emptyK
  have l1 : (⟨#[0, 1]⟩ : ByteArray) = st [0, 1] := rfl
  have l2 : (⟨#[255]⟩ : ByteArray) = st [255] := rfl
  go_enter Tryd.func27, Tryd.ntmps27
  go_wp2_with fail
  rw [he.out]
  go_loop [3, 4] (fun sv iv => ∃ (i : Nat) (d : List UInt8), iv = .int .i64 (i : Int) ∧ i ≤ l.length ∧ sv = .string (st d) ∧ Hid (d = keyB (l.take i)) ∧ d.length ≤ 2 * i) (fun _ iv => l.length - (intOf iv).toNat)
  case atStart => exact ⟨0, [], rfl, by omega, rfl, rfl, by simp⟩
  case round =>
    obtain ⟨i, d, rfl, hi, rfl, hd, hdl⟩ := hrel
    by_cases hil : i < l.length
    · have hdo := drop_one hil
      by_cases h0 : l[i].toNat = 0
      · have HK := Lib.hid (keyB_take0 hil h0)
        have z0 : ((l[i].toNat : Int) == 0) = true := by rw [h0]; rfl
        have hl0 : l[i] = 0 := UInt8.toNat_inj.1 h0
        have HL0 := Lib.hid hl0
        clear h0 hl0
        go_wp2_with fail
        go_round
        case rel => exact ⟨i + 1, d ++ [l[i]] ++ [255], by go_num, by omega, by simp, by rw [Hid, HK.out, hd.out, HL0.out]; simp, by simp; omega⟩
        case measure => simp [intOf]; omega
      · have HK := Lib.hid (keyB_take1 hil h0)
        have z0 : ((l[i].toNat : Int) == 0) = false := by rw [beq_eq_false_iff_ne]; omega
        clear h0
        go_wp2_with fail
        go_round
        case rel => exact ⟨i + 1, d ++ [l[i]], by go_num, by omega, rfl, by rw [Hid, HK.out, hd.out], by simp; omega⟩
        case measure => simp [intOf]; omega
    · obtain rfl : i = l.length := by omega
      have hd2 := hd.out
      rw [List.take_length] at hd2
      have HD := Lib.hid hd2
      clear hd hd2
      go_wp2_with fail
      go_ret
      rw [HD.out]
      exact ⟨rfl, rfl⟩
end Go.Proofs.YtdmighkfmbcbmaaDoor
