/- lapstoneref04.Put, Get, Begins; keys.End, In: what they return. -/
import Derived.Test.YtdmighkfmbcbmaaDoorKeyB
import Derived.Test.YtdmighkfmbcbmaaDoorNumR
import Derived.Test.YtdmighkfmbcbmaaDoorGrowB
import Derived.IntWalk
namespace Go.Proofs.YtdmighkfmbcbmaaDoor
open Go Go.RowKit
set_option linter.unusedVariables false

set_option maxHeartbeats 400000 in
theorem refKPut_long (l : List UInt8) (t : Nat) (w : World) (hl : 64 < l.length) (hm : l.length ≤ 9223372036854775807) :
    Calls Tryd.prog 16 #[.string (st l), .int .u64 t] w fun e w' => e = .returned (.tuple #[.string (st []), .int .i64 41]) ∧ w = w' := by
  have t1 : (64 : Int) < (l.length : Int) := by omega
  go_enter Tryd.func16, Tryd.ntmps16
  go_wp2
  go_ret2
  exact ⟨rfl, rfl⟩
set_option maxHeartbeats 400000 in
set_option maxRecDepth 100000 in
theorem refKPut_ok (l : List UInt8) (t : Nat) (w : World) (ht : t < U64) (hl : l.length ≤ 64) :
    Calls Tryd.prog 16 #[.string (st l), .int .u64 t] w fun e w' => e = .returned (.tuple #[.string (st (keyPut l t)), .int .i64 0]) ∧ Below w.heap.size w w' := by
  have t1 : ¬ (64 : Int) < (l.length : Int) := by omega
  have hk2 : (keyB l).length ≤ 128 := by have := keyB_len l; omega
  go_enter Tryd.func16, Tryd.ntmps16
  go_wp2_with fail
  have hw : ((18446744073709551615 : Int) - (t : Int)) = ((18446744073709551615 - t : Nat) : Int) := by unfold U64 at ht; omega
  first | rw [wrap_u64 (by unfold U64 at ht; omega) (by unfold U64; omega)] | skip
  rw [hw]
  clear hw
  refine (refPut_any (18446744073709551615 - t) 8 w (notB_u64 t ht) (by omega) (by omega)).mono ?_
  rintro e w1 ⟨rfl, hbl⟩
  go_wp2_with fail
  refine (refKey_any l w1 (by omega)).mono ?_
  rintro e w2 ⟨rfl, rfl⟩
  have hb8 : (beB (18446744073709551615 - t) 8).length = 8 := beB_length _ _
  have hle : (keyB l).length + 1 + 1 + (beB (18446744073709551615 - t) 8).length ≤ 200 := by rw [hb8]; omega
  clear hb8
  have HE : Hid (keyPut l t = keyB l ++ 0 :: 1 :: beB (18446744073709551615 - t) 8) := by simp [Hid, keyPut]
  go_wp2_with fail
  go_ret2
  rw [HE.out]
  exact ⟨rfl, hbl⟩

set_option maxHeartbeats 1000000 in
set_option maxRecDepth 100000 in
theorem refKGet_any (s : List UInt8) (w : World) (hl : s.length ≤ 1099511627776) :
    Calls Tryd.prog 13 #[.string (st s)] w fun e w' => e = .returned (kgetV (keyGet s)) ∧ w = w' := by
  have he : Hid ((⟨#[]⟩ : ByteArray) = st []) := st_emptyK
  have l1 : (⟨#[0]⟩ : ByteArray) = st [0] := rfl
  go_enter Tryd.func13, Tryd.ntmps13
  go_wp2_with fail
  rw [he.out]
  go_loop [5, 6] (fun kv iv => ∃ (i : Nat) (d : List UInt8), iv = .int .i64 (i : Int) ∧ i ≤ s.length ∧ kv = .string (st d) ∧ d.length ≤ i ∧ Hid (keyRef (s.drop i) d = keyGet s)) (fun _ iv => s.length - (intOf iv).toNat)
  case atStart => exact ⟨0, [], rfl, by omega, rfl, by simp, keyRef_get s⟩
  case round =>
    obtain ⟨i, d, rfl, hi, rfl, hdl, HK⟩ := hrel
    by_cases hil : i < s.length
    · have hdo := drop_one hil
      have HD : Hid (s.drop i = s[i] :: s.drop (i + 1)) := List.drop_eq_getElem_cons hil
      by_cases h0 : s[i].toNat = 0
      · have z0 : ((s[i].toNat : Int) != 0) = false := by rw [h0]; rfl
        have hs0 : s[i] = 0 := UInt8.toNat_inj.1 h0
        by_cases hi1 : i + 1 < s.length
        · have HD1 : Hid (s.drop (i + 1) = s[i + 1] :: s.drop (i + 2)) := List.drop_eq_getElem_cons hi1
          have HK2 : Hid ((if s[i + 1] = 255 then keyRef (s.drop (i + 2)) (d ++ [0]) else if s[i + 1] = 1 ∧ (s.drop (i + 2)).length = 8 ∧ d.length ≤ 64 then some (d, deB (s.drop (i + 2))) else none) = keyGet s) := by
            rw [Hid, ← HK.out, HD.out, HD1.out, hs0, keyRef_zero]
          clear HK HD HD1 h0 hs0
          by_cases h255 : s[i + 1].toNat = 255
          · have HK3 : Hid (keyRef (s.drop (i + 2)) (d ++ [0]) = keyGet s) := by
              have := HK2.out
              rwa [if_pos (UInt8.toNat_inj.1 h255)] at this
            have z1 : ((s[i + 1].toNat : Int) == 255) = true := by rw [h255]; rfl
            clear h255 HK2
            go_wp2_with fail
            go_round
            case rel => exact ⟨i + 2, d ++ [0], by go_num, by omega, rfl, by simp; omega, HK3⟩
            case measure => simp [intOf]; omega
          · have z1 : ((s[i + 1].toNat : Int) == 255) = false := by rw [beq_eq_false_iff_ne]; omega
            have HK3 : Hid ((if s[i + 1] = 1 ∧ (s.drop (i + 2)).length = 8 ∧ d.length ≤ 64 then some (d, deB (s.drop (i + 2))) else none) = keyGet s) := by
              have := HK2.out
              rwa [if_neg (fun h => h255 (by rw [h]; rfl))] at this
            clear h255 HK2
            by_cases hc : s[i + 1].toNat = 1 ∧ s.length = i + 10 ∧ d.length ≤ 64
            · obtain ⟨hc1, hc2, hc3⟩ := hc
              have hl8 : (s.drop (i + 2)).length = 8 := by rw [List.length_drop]; omega
              have HF : Hid (keyGet s = some (d, deB (s.drop (i + 2)))) := by
                rw [Hid, ← HK3.out, if_pos ⟨UInt8.toNat_inj.1 hc1, hl8, hc3⟩]
              have z2 : ((s[i + 1].toNat : Int) == 1) = true := by rw [hc1]; rfl
              have z3 : ((s.length : Int) == (i : Int) + 10) = true := by rw [beq_iff_eq]; omega
              have HL8 := Lib.hid hl8
              have ht : s.length - (i + 2) = 8 := by omega
              have hdt : (s.drop (i + 2)).take 8 = s.drop (i + 2) := List.take_of_length_le (by omega)
              have hdb : deB (s.drop (i + 2)) < U64 := by
                have := deB_lt (s.drop (i + 2))
                rw [hl8] at this
                unfold U64
                exact Nat.lt_of_lt_of_le this (by decide)
              have HDB := Lib.hid hdb
              clear hc1 hc2 hl8 HK3 hdb
              go_wp2_with fail
              refine (refGet_any (s.drop (i + 2)) w (by rw [HL8.out]; omega)).mono ?_
              rintro e w1 ⟨rfl, rfl⟩
              have hw : IntKind.u64.wrap ((18446744073709551615 : Int) - (deB (s.drop (i + 2)) : Int)) = ((18446744073709551615 - deB (s.drop (i + 2)) : Nat) : Int) := by
                have := HDB.out
                unfold U64 at this
                rw [wrap_u64 (by omega) (by unfold U64; omega)]
                omega
              have HW := Lib.hid hw
              clear hw
              go_wp2_with fail
              go_ret3
              rw [HF.out]
              exact ⟨by rw [HW.out]; rfl, rfl⟩
            · have HF : Hid (keyGet s = none) := by
                rw [Hid, ← HK3.out, if_neg]
                rintro ⟨h1, h2, h3⟩
                rw [List.length_drop] at h2
                exact hc ⟨by rw [h1]; rfl, by omega, h3⟩
              clear HK3
              have hcase : ¬ s[i + 1].toNat = 1 ∨ (s[i + 1].toNat = 1 ∧ ¬ s.length = i + 10) ∨ (s[i + 1].toNat = 1 ∧ s.length = i + 10 ∧ ¬ d.length ≤ 64) := by omega
              clear hc
              rcases hcase with h1 | ⟨h1, h2⟩ | ⟨h1, h2, h3⟩
              · have z2 : ((s[i + 1].toNat : Int) == 1) = false := by rw [beq_eq_false_iff_ne]; omega
                clear h1
                go_wp2_with fail
                go_ret3
                rw [HF.out]
                exact ⟨rfl, rfl⟩
              · have z2 : ((s[i + 1].toNat : Int) == 1) = true := by rw [h1]; rfl
                have z3 : ((s.length : Int) == (i : Int) + 10) = false := by rw [beq_eq_false_iff_ne]; omega
                clear h1 h2
                go_wp2_with fail
                go_ret3
                rw [HF.out]
                exact ⟨rfl, rfl⟩
              · have z2 : ((s[i + 1].toNat : Int) == 1) = true := by rw [h1]; rfl
                have z3 : ((s.length : Int) == (i : Int) + 10) = true := by rw [beq_iff_eq]; omega
                have z4 : ¬ (d.length : Int) ≤ 64 := by omega
                clear h1 h2
                go_wp2_with fail
                go_ret3
                rw [HF.out]
                exact ⟨rfl, rfl⟩
        · have HF : Hid (keyGet s = none) := by
            rw [Hid, ← HK.out, HD.out, List.drop_eq_nil_of_le (by omega : s.length ≤ i + 1), keyRef_one]
          clear HK HD h0 hs0
          go_wp2_with fail
          go_ret3
          rw [HF.out]
          exact ⟨rfl, rfl⟩
      · have z0 : ((s[i].toNat : Int) != 0) = true := by rw [bne_iff_ne]; omega
        have HK2 : Hid (keyRef (s.drop (i + 1)) (d ++ [s[i]]) = keyGet s) := by
          rw [Hid, ← HK.out, HD.out, keyRef_some (fun h => h0 (by rw [h]; rfl))]
        clear h0 HK HD
        go_wp2_with fail
        go_round
        case rel => exact ⟨i + 1, d ++ [s[i]], by go_num, by omega, rfl, by simp; omega, HK2⟩
        case measure => simp [intOf]; omega
    · have HF : Hid (keyGet s = none) := by
        rw [Hid, ← HK.out, List.drop_eq_nil_of_le (by omega), keyRef_nil]
      clear HK
      go_wp2_with fail
      go_ret3
      rw [HF.out]
      exact ⟨rfl, rfl⟩
set_option maxHeartbeats 400000 in
theorem begins_any (l m : List UInt8) (w : World) (hl : l.length ≤ 9223372036854775807) (hm : m.length ≤ 9223372036854775807) :
    Calls Tryd.prog 19 #[.string (st l), .string (st m)] w fun e w' => e = .returned (.bool (m.isPrefixOf l)) ∧ w = w' := by
  by_cases h : m.length ≤ l.length
  · have hp : Hid ((l.take m.length == m) = m.isPrefixOf l) := by
      rw [Hid, Bool.eq_iff_iff, beq_iff_eq, List.isPrefixOf_iff_prefix]
      constructor
      · intro h1
        rw [← h1]
        exact List.take_prefix _ _
      · intro h1
        exact (List.prefix_iff_eq_take.1 h1).symm
    go_enter Tryd.func19, Tryd.ntmps19
    go_wp2_with fail
    go_ret
    rw [← hp.out]
    exact ⟨rfl, rfl⟩
  · have hp : Hid (m.isPrefixOf l = false) := by
      rw [Hid, Bool.eq_false_iff]
      intro h1
      rw [List.isPrefixOf_iff_prefix] at h1
      exact h h1.length_le
    go_enter Tryd.func19, Tryd.ntmps19
    go_wp2_with fail
    go_ret
    rw [hp.out]
    exact ⟨rfl, rfl⟩
set_option maxHeartbeats 400000 in
theorem in_any (k f t : List UInt8) (o : Bool) (w : World) :
    Calls Tryd.prog 20 #[.string (st k), .string (st f), .string (st t), .bool o] w fun e w' => e = .returned (.bool (!Op.bytesLess k f && (o || Op.bytesLess k t))) ∧ w = w' := by
  cases h1 : Op.bytesLess k f <;> cases o <;> cases h2 : Op.bytesLess k t
  all_goals
    go_enter Tryd.func20, Tryd.ntmps20
    go_wp2_with fail
    go_ret
    exact ⟨rfl, rfl⟩

/-- The bytes ahead of the bytes 255 at the end. -/
def trimB (l : List UInt8) : List UInt8 := (l.reverse.dropWhile (· == 255)).reverse
/-- The least key behind all that begin with some bytes. -/
def endB (l : List UInt8) : Option (List UInt8) := match (l.reverse.dropWhile (· == 255)) with
  | [] => none
  | b :: r => some (r.reverse ++ [b + 1])

theorem end_cases (l : List UInt8) : (trimB l = [] ∧ endB l = none ∧ ∃ k, l = List.replicate k 255) ∨ ∃ p b, b ≠ 255 ∧ trimB l = p ++ [b] ∧ endB l = some (p ++ [b + 1]) ∧ ∃ k, l = p ++ [b] ++ List.replicate k 255 := by
  have hsp : l = trimB l ++ (l.reverse.takeWhile (· == 255)).reverse := by
    have := List.takeWhile_append_dropWhile (p := (· == 255)) (l := l.reverse)
    have h2 := congrArg List.reverse this
    rw [List.reverse_append, List.reverse_reverse] at h2
    exact h2.symm
  have hrep : ∃ k, (l.reverse.takeWhile (· == 255)).reverse = List.replicate k 255 := by
    refine ⟨(l.reverse.takeWhile (· == 255)).length, ?_⟩
    rw [List.eq_replicate_iff]
    refine ⟨by simp, fun x hx => ?_⟩
    have := List.all_takeWhile (p := (· == (255 : UInt8))) (l := l.reverse)
    rw [List.all_eq_true] at this
    simpa using this x (by simpa using hx)
  obtain ⟨k, hk⟩ := hrep
  rw [hk] at hsp
  unfold endB
  have ht : trimB l = (l.reverse.dropWhile (· == 255)).reverse := rfl
  cases hd : l.reverse.dropWhile (· == 255) with
  | nil => left; rw [hd] at ht; exact ⟨ht, rfl, k, by rw [ht] at hsp; simpa using hsp⟩
  | cons b r =>
    right
    rw [hd, List.reverse_cons] at ht
    have hb : ¬ (b == 255) = true := by
      have := List.head?_dropWhile_not (p := (· == (255 : UInt8))) l.reverse
      rw [hd] at this
      simpa using this
    exact ⟨r.reverse, b, by simpa using hb, ht, rfl, k, by rw [ht] at hsp; exact hsp⟩

set_option maxHeartbeats 400000 in
theorem trimmed_any (l : List UInt8) (w : World) (hl : l.length ≤ 9223372036854775807) :
    Calls Tryd.prog 28 #[.string (st l)] w fun e w' => e = .returned (.int .i64 (trimB l).length) ∧ w = w' := by
  go_enter Tryd.func28, Tryd.ntmps28
  go_wp2_with fail
  go_loop [3] (fun iv => ∃ (i : Nat), iv = .int .i64 (i : Int) ∧ i ≤ l.length ∧ Hid (trimB (l.take i) = trimB l)) (fun iv => (intOf iv).toNat)
  case atStart => exact ⟨l.length, rfl, by omega, by simp [Hid]⟩
  case round =>
    obtain ⟨i, rfl, hi, HT⟩ := hrel
    rcases i with _ | i
    · go_wp2_with fail
      go_ret
      have := HT.out
      rw [List.take_zero] at this
      rw [← this]
      exact ⟨rfl, rfl⟩
    · have hil : i < l.length := by omega
      have hrv : (l.take (i + 1)).reverse = l[i] :: (l.take i).reverse := by rw [List.take_succ_eq_append_getElem hil]; simp
      have hgt : (0 : Int) < ((i : Int) + 1) := by omega
      rw [show (((i + 1 : Nat)) : Int) = (i : Int) + 1 from rfl]
      by_cases h255 : l[i].toNat = 255
      · have z1 : ((l[i].toNat : Int) == 255) = true := by rw [h255]; rfl
        have HT2 : Hid (trimB (l.take i) = trimB l) := by
          rw [Hid, ← HT.out]
          unfold trimB
          rw [hrv, List.dropWhile_cons, if_pos (by rw [beq_iff_eq]; exact UInt8.toNat_inj.1 h255)]
        clear h255 HT hrv
        go_wp2_with fail
        go_round
        case rel => exact ⟨i, by go_num, by omega, HT2⟩
        case measure => simp [intOf]
      · have z1 : ((l[i].toNat : Int) == 255) = false := by rw [beq_eq_false_iff_ne]; omega
        have HT2 : Hid ((trimB l).length = i + 1) := by
          rw [Hid, ← HT.out]
          unfold trimB
          rw [hrv, List.dropWhile_cons, if_neg (by rw [beq_iff_eq]; exact fun h => h255 (by rw [h]; rfl))]
          simp
          omega
        clear h255 HT hrv
        go_wp2_with fail
        go_ret
        rw [HT2.out]
        exact ⟨rfl, rfl⟩

def endV : Option (List UInt8) → Value
  | some e => .tuple #[.string (st e), .bool true]
  | none => .tuple #[.string (st []), .bool false]
set_option maxHeartbeats 1000000 in
set_option maxRecDepth 100000 in
theorem end_any (l : List UInt8) (w : World) (hl : l.length ≤ 1099511627776) :
    Calls Tryd.prog 18 #[.string (st l)] w fun e w' => e = .returned (endV (endB l)) ∧ Below w.heap.size w w' := by
  rcases end_cases l with ⟨ht, he, _⟩ | ⟨p, b, hb, ht, he, k, hk⟩
  · have HE := Lib.hid he
    have HT := Lib.hid ht
    clear he ht
    go_enter Tryd.func18, Tryd.ntmps18
    go_wp2_with fail
    refine (trimmed_any l w (by omega)).mono ?_
    rintro e w1 ⟨rfl, rfl⟩
    rw [HT.out]
    go_wp2_with fail
    go_ret2
    rw [HE.out]
    exact ⟨rfl, Below.refl _ _⟩
  · have HE := Lib.hid he
    have HT := Lib.hid ht
    have hpl : p.length + 1 ≤ l.length := by rw [hk]; simp
    have HTK : Hid (l.take (p.length + 1) = p ++ [b]) := by
      rw [Hid, hk, List.take_append_of_le_length (by simp), List.take_of_length_le (by simp)]
    have hlt : (p ++ [b]).length = p.length + 1 := by simp
    have HLT := Lib.hid hlt
    have hbx : b.toNat ≤ 254 := by
      have := b.toNat_lt
      have : b.toNat ≠ 255 := fun h => hb (UInt8.toNat_inj.1 h)
      omega
    have hb1 : Hid ((b + 1).toNat = b.toNat + 1) := by rw [Hid, UInt8.toNat_add]; simp; omega
    have hne : ((p ++ [b]) == []) = false := by simp
    clear hk he ht hlt hb
    go_enter Tryd.func18, Tryd.ntmps18
    go_wp2_with fail
    refine (trimmed_any l w (by omega)).mono ?_
    rintro e w1 ⟨rfl, rfl⟩
    rw [HT.out, HLT.out]
    have hemp : (List.take (p.length + 1) l).isEmpty = false := by rw [HTK.out]; simp
    go_wp2_with fail
    rw [HTK.out]
    have hpm : p.length + 1 ≤ 1099511627776 := by omega
    have htp : (p ++ [b]).take p.length = p := List.take_left
    have HB1 : Hid (((b + 1).toNat : Int) = (b.toNat : Int) + 1) := by rw [Hid, hb1.out]; rfl
    have hwp : IntKind.i64.wrap (p.length : Int) = (p.length : Int) := IntWalk.i64_in _ (by omega)
    have hwb : IntKind.u8.wrap ((b.toNat : Int) + 1) = (b.toNat : Int) + 1 := by rw [IntKind.wrap_u8']; omega
    have hi0 : (0 : Int) ≤ (p.length : Int) := by omega
    have hadd : ¬ 9223372036854775807 < p.length + 1 := by omega
    have hi1 : (p.length : Int) ≤ (p.length : Int) + 1 := by omega
    have hi2 : (p.length : Int) < (p.length : Int) + 1 := by omega
    clear hemp HTK hl hpl
    refine wp_region_grow_lit (by kernel_rfl) (by kernel_rfl) ?_
    apply Exists.intro
    apply And.intro
    · repeat (first
        | (apply wpGrow_is rfl
           · intro wg hwg _
             unfold grows
             go_simp
             first
               | exact grows_value _ _
           intro K hK
           go_simp
           refine hK _ ?_
           clear hK K))
      apply wpGrow_rel (V := VBs [b + 1]) rfl
      · intro wg hwg _
        unfold grows
        go_simp
        have h := Bs.lit wg 5 [b + 1] (by simp [maxLen]) (0, 0) rfl
        simp only [bv, List.map_cons, List.map_nil] at h
        rw [HB1.out] at h
        exact ⟨(Below.refl _ _).alloc (Nat.le_refl _) _, h.any⟩
      intro xv hxv K hK
      obtain ⟨wx, _, hbx⟩ := hxv
      obtain ⟨A3, c3, rfl, _⟩ := Bs.at hbx
      go_simp
      refine hK _ ?_
      clear hK K hbx
      apply wpGrow_is rfl
      · intro wg hwg hf
        have hb6 := hf ⟨11, .data⟩ (by simp) rfl _ _ rfl
        have hcv6 : (convert 27 9 (.slice A3 1 c3)).run Tryd.prog wg = .ok (.string (st [b + 1])) wg := run_string_of_bs (P := Tryd.prog) hb6 tB tU tS
        clear hf hb6
        unfold grows
        go_simp
        exact grows_value _ _
      intro K hK
      go_simp
      refine hK _ ?_
      clear hK K
      repeat (first
        | (apply wpGrow_is rfl
           · intro wg hwg _
             unfold grows
             go_simp
             first
               | exact grows_value _ _
           intro K hK
           go_simp
           refine hK _ ?_
           clear hK K))
      refine wpGrow_end (fun wg hwg _ => ?_)
      go_wp2
      go_ret2
      rw [HE.out]
      exact ⟨rfl, hwg⟩
    · apply And.intro
      · repeat (first | exact trivial | (refine ⟨Stays.is _, ?_⟩) | (refine ⟨Stays.bs _, ?_⟩))
      · rfl
end Go.Proofs.YtdmighkfmbcbmaaDoor
