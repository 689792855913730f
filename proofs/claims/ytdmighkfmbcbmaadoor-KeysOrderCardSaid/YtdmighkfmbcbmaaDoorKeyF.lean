/- The statements of layer 4: KeysBack, KeysOrder, KeysFirst. -/
import Derived.Test.YtdmighkfmbcbmaaDoorKeyE
import Derived.Test.YtdmighkfmbcbmaaDoorNumC
import Derived.Deep.QuietTactic
import Derived.BigQuiet
namespace Go.Proofs.YtdmighkfmbcbmaaDoor
open Go Go.RowKit
set_option linter.unusedVariables false

set_option maxHeartbeats 2000000 in
set_option maxRecDepth 100000 in
/-- What keys.Get and then keys.Put make of bytes: the second half of the law. -/
theorem back_half (l : List UInt8) (hl : l.length ≤ 2000) : ∀ k d, keyGet l = some (k, d) → keyPut k (18446744073709551615 - d) = l ∧ k.length ≤ 64 ∧ 18446744073709551615 - d < U64 := by
  intro k d h
  obtain ⟨h1, h2, h3⟩ := keyPut_get h
  refine ⟨?_, h2, notB_u64 d h3⟩
  unfold U64 at h3
  rw [keyPut, show 18446744073709551615 - (18446744073709551615 - d) = d by omega]
  exact h1.symm

/-- The post of the law. -/
def LawOk (w : World) (e : Ending) (w' : World) : Prop := e = .returned (.bool true) ∧ Below w.heap.size w w'

set_option maxHeartbeats 4000000 in
set_option maxRecDepth 100000 in
theorem law_KeysBack (l : List UInt8) (t : Nat) (s : List UInt8) (w : World) (hb : BitsOk w) (hl : l.length ≤ 9223372036854775807) (ht : t < U64) (hs : s.length ≤ 9223372036854775807) :
    Calls Tryd.prog 4 #[.string (st l), .int .u64 t, .string (st s)] w fun e w' => e = .returned (.bool true) ∧ Below w.heap.size w w' := by
  have HB := Lib.hid hb
  clear hb
  by_cases hlen : 1000 < l.length ∨ 2000 < s.length
  · have hcase : (1000 : Int) < (l.length : Int) ∨ (¬ (1000 : Int) < (l.length : Int) ∧ (2000 : Int) < (s.length : Int)) := by omega
    clear hlen
    rcases hcase with t1 | ⟨t1, t2⟩
    all_goals
      go_enter Tryd.func4, Tryd.ntmps4
      go_wp2_with fail
      refine (awake4_any w HB.out).mono ?_
      rintro e w1 ⟨rfl, hbl1⟩
      go_wp2_with fail
      go_ret
      exact ⟨rfl, hbl1⟩
  · have t1 : ¬ (1000 : Int) < (l.length : Int) := by omega
    have t2 : ¬ (2000 : Int) < (s.length : Int) := by omega
    have ms : s.length ≤ maxLen := by simp only [maxLen]; omega
    have hs' : s.length ≤ 1099511627776 := by omega
    have HH := Lib.hid (back_half s (by omega))
    by_cases h64 : 64 < l.length
    case' pos =>
      go_enter Tryd.func4, Tryd.ntmps4
      go_wp2_with fail
      refine (kput_long l t w h64 hl).mono ?_
      rintro e w2 ⟨rfl, hw2⟩
      have q2 : Below w.heap.size w w2 := by rw [← hw2]; exact Below.refl _ _
      clear hw2
    case' neg =>
      have h64' : l.length ≤ 64 := by omega
      have HG := Lib.hid (keyGet_put l t h64' ht)
      have hnn : 18446744073709551615 - (18446744073709551615 - t) = t := by unfold U64 at ht; omega
      have HNN := Lib.hid hnn
      have hkb : (keyPut l t).length ≤ 1000 := by have := keyB_len l; simp [keyPut, beB_length]; omega
      clear hnn
      go_enter Tryd.func4, Tryd.ntmps4
      go_wp2_with fail
      refine (kput_ok l t w HB.out ht h64').mono ?_
      rintro e w1 ⟨A1, k1, c1, rfl, hown1, q1⟩
      have HO1 := Lib.hid hown1
      clear hown1
      go_wp2_with fail
      refine (kget_any _ _ (keyPut l t) w1 (by omega) HO1.out.bs).mono ?_
      rintro e w2 ⟨rfl, hbl2⟩
      rw [HG.out, kgetV, HNN.out]
      have q2 := below_chain q1 hbl2
      clear HO1 hbl2 q1 HG hkb
    all_goals
      have HB2 := Lib.hid (HB.out.later q2)
      go_wp2_with (refine wpList_bytes_of_st _ rfl (.tmp 53) rfl tS tB tU ms rfl ?_; intro A3 c3 w3 hbs3 hbl3 hsz3)
      refine (kget_any _ _ s w3 hs' hbs3).mono ?_
      rintro e w4 ⟨rfl, hbl4⟩
      have q4 := below_chain (below_chain q2 hbl3) hbl4
      clear hbs3 hbl3 hbl4 hsz3 q2
      cases hg : keyGet s with
      | none =>
        rw [kgetV]
        clear hg
        go_wp2_with fail
        refine (awake4_any w4 (HB.out.later q4)).mono ?_
        rintro e w5 ⟨rfl, hbl5⟩
        go_wp2_with fail
        go_ret
        exact ⟨rfl, below_chain q4 hbl5⟩
      | some kd =>
        obtain ⟨k, d⟩ := kd
        obtain ⟨g1, g2, g3⟩ := HH.out k d hg
        rw [kgetV]
        generalize 18446744073709551615 - d = dd at *
        have G1 := Lib.hid g1
        clear hg g1 HH
        go_wp2_with fail
        refine (kput_ok k dd w4 (HB.out.later q4) g3 g2).mono ?_
        rintro e w5 ⟨A5, k5, c5, rfl, hown5, hbl5⟩
        rw [G1.out] at hown5
        have cv := run_string_of_bs (P := Tryd.prog) hown5.bs tB tU tS
        have q5 := below_chain q4 hbl5
        clear hown5 hbl5 q4
        go_wp2_with fail
        refine (awake4_any w5 (HB.out.later q5)).mono ?_
        rintro e w6 ⟨rfl, hbl6⟩
        go_wp2_with fail
        go_ret
        exact ⟨rfl, below_chain q5 hbl6⟩

theorem ret_boolK {a b : Bool} (h : a = b) : Ending.returned (.bool a) = .returned (.bool b) := by rw [h]
theorem first_cmp (a b : List UInt8) (y : Nat) (hy : y < U64) : cmpB (keyPut b y) (firstB a) < 0 ↔ Op.bytesLess b a = true := by
  unfold firstB
  rw [keyPut_cmp b a y _ hy (by unfold U64; omega), cmpB_less, decide_eq_true_eq]
  unfold U64 at hy
  by_cases h : b = a
  · subst h
    rw [if_pos rfl, if_neg (by omega), cmpB_self]
    split <;> omega
  · rw [if_neg h]

theorem cmp_bd (l m : List UInt8) : -1 ≤ cmpB l m ∧ cmpB l m ≤ 1 := by rcases cmpB_rng l m with h | h | h <;> omega

set_option maxHeartbeats 2000000 in
set_option maxRecDepth 100000 in
theorem law_KeysFirst (a b : List UInt8) (y : Nat) (w : World) (hb : BitsOk w) (ha : a.length ≤ 9223372036854775807) (hb' : b.length ≤ 9223372036854775807) (hy : y < U64) :
    Calls Tryd.prog 10 #[.string (st a), .string (st b), .int .u64 y] w fun e w' => e = .returned (.bool true) ∧ Below w.heap.size w w' := by
  have HB := Lib.hid hb
  clear hb
  by_cases h1 : 64 < a.length
  · by_cases h2 : 64 < b.length
    · go_enter Tryd.func10, Tryd.ntmps10
      go_wp2_with fail
      refine (kfirst_long a w h1 ha).mono ?_
      rintro e w1 ⟨rfl, rfl⟩
      go_wp2_with fail
      refine (kput_long b y w h2 hb').mono ?_
      rintro e w1 ⟨rfl, rfl⟩
      go_wp2_with fail
      refine (awake4_any w HB.out).mono ?_
      rintro e w1 ⟨rfl, q1⟩
      go_wp2_with fail
      refine (awake4_any w1 (HB.out.later q1)).mono ?_
      rintro e w2 ⟨rfl, hbl2⟩
      go_wp2_with fail
      go_ret
      exact ⟨rfl, below_chain q1 hbl2⟩
    · go_enter Tryd.func10, Tryd.ntmps10
      go_wp2_with fail
      refine (kfirst_long a w h1 ha).mono ?_
      rintro e w1 ⟨rfl, rfl⟩
      go_wp2_with fail
      refine (kput_ok b y w HB.out hy (by omega)).mono ?_
      rintro e w1 ⟨A1, k1, c1, rfl, _, q0⟩
      go_wp2_with fail
      refine (awake4_any w1 (HB.out.later q0)).mono ?_
      rintro e w2 ⟨rfl, hbl1⟩
      have q1 := below_chain q0 hbl1
      go_wp2_with fail
      refine (awake4_any w2 (HB.out.later q1)).mono ?_
      rintro e w3 ⟨rfl, hbl2⟩
      go_wp2_with fail
      go_ret
      exact ⟨rfl, below_chain q1 hbl2⟩
  · by_cases h2 : 64 < b.length
    · go_enter Tryd.func10, Tryd.ntmps10
      go_wp2_with fail
      refine (kfirst_ok a w HB.out (by omega)).mono ?_
      rintro e w1 ⟨A1, k1, c1, rfl, _, q0⟩
      go_wp2_with fail
      refine (kput_long b y w1 h2 hb').mono ?_
      rintro e w2 ⟨rfl, rfl⟩
      go_wp2_with fail
      refine (awake4_any w1 (HB.out.later q0)).mono ?_
      rintro e w2 ⟨rfl, hbl1⟩
      have q1 := below_chain q0 hbl1
      go_wp2_with fail
      refine (awake4_any w2 (HB.out.later q1)).mono ?_
      rintro e w3 ⟨rfl, hbl2⟩
      go_wp2_with fail
      go_ret
      exact ⟨rfl, below_chain q1 hbl2⟩
    · have HC := Lib.hid (first_cmp a b y hy)
      have hk1 : (firstB a).length ≤ 1000 := by have := keyB_len a; unfold firstB; simp [keyPut, beB_length]; omega
      have hk2 : (keyPut b y).length ≤ 1000 := by have := keyB_len b; simp [keyPut, beB_length]; omega
      go_enter Tryd.func10, Tryd.ntmps10
      go_wp2_with fail
      refine (kfirst_ok a w HB.out (by omega)).mono ?_
      rintro e w1 ⟨A1, k1, c1, rfl, hown1, q1⟩
      have HO1 := Lib.hid hown1
      clear hown1
      go_wp2_with fail
      refine (kput_ok b y w1 (HB.out.later q1) hy (by omega)).mono ?_
      rintro e w2 ⟨A2, k2, c2, rfl, hown2, hbl2⟩
      have HO2 := Lib.hid hown2
      have HO1' := Lib.hid (HO1.out.later hbl2)
      have q2 := below_chain q1 hbl2
      clear hown2 HO1 hbl2 q1
      go_wp2_with fail
      refine (awake4_any w2 (HB.out.later q2)).mono ?_
      rintro e w3 ⟨rfl, hbl3⟩
      have HO2' := Lib.hid (HO2.out.later hbl3)
      have HO1 := Lib.hid (HO1'.out.later hbl3)
      have q3 := below_chain q2 hbl3
      clear HO2 HO1' hbl3 q2
      have hcase : (cmpB (keyPut b y) (firstB a) < 0 ∧ Op.bytesLess b a = true) ∨ (¬ cmpB (keyPut b y) (firstB a) < 0 ∧ Op.bytesLess b a = false) := by
        by_cases h : cmpB (keyPut b y) (firstB a) < 0
        · exact .inl ⟨h, HC.out.1 h⟩
        · refine .inr ⟨h, ?_⟩
          cases hx : Op.bytesLess b a
          · rfl
          · exact absurd (HC.out.2 hx) h
      clear HC
      rcases hcase with ⟨h1, h2⟩ | ⟨h1, h2⟩
      all_goals
        go_wp2_with fail
        refine (cmp_any _ _ _ _ (keyPut b y) (firstB a) w3 (by omega) (by omega) HO2'.out.bs HO1.out.bs).mono ?_
        rintro e w4 ⟨rfl, hdr⟩
        have q4 := q3.trans (hdr.below _)
        generalize cmpB (keyPut b y) (firstB a) = cv at *
        clear hdr q3
        go_wp2_with fail
        go_ret
        first
          | exact ⟨rfl, q4⟩
          | exact ⟨ret_boolK (by rw [decide_eq_false (by omega)]; rfl), q4⟩

theorem order_cases (a b : List UInt8) (x y : Nat) (hx : x < U64) (hy : y < U64) :
    (cmpB (keyPut a x) (keyPut b y) = -1 ∧ Op.bytesLess a b = true ∧ Op.bytesLess b a = false ∧ (a == b) = false) ∨
    (cmpB (keyPut a x) (keyPut b y) = 1 ∧ Op.bytesLess a b = false ∧ Op.bytesLess b a = true ∧ (a == b) = false) ∨
    (a = b ∧ ((cmpB (keyPut a x) (keyPut b y) = -1 ∧ y < x) ∨ (cmpB (keyPut a x) (keyPut b y) = 1 ∧ x < y) ∨ (cmpB (keyPut a x) (keyPut b y) = 0 ∧ x = y))) := by
  rw [keyPut_cmp a b x y hx hy]
  rcases less_cases a b with h | rfl | h
  · refine .inl ⟨?_, h.1, h.2.1, h.2.2.1⟩
    rw [if_neg (by intro he; subst he; simp at h), h.2.2.2.2]
  · refine .inr (.inr ⟨rfl, ?_⟩)
    rw [if_pos rfl]
    by_cases h1 : y < x
    · rw [if_pos h1]; exact .inl ⟨rfl, h1⟩
    · rw [if_neg h1]
      by_cases h2 : x < y
      · rw [if_pos h2]; exact .inr (.inl ⟨rfl, h2⟩)
      · rw [if_neg h2]; exact .inr (.inr ⟨rfl, by omega⟩)
  · refine .inr (.inl ⟨?_, h.2.1, h.1, h.2.2.1⟩)
    rw [if_neg (by intro he; subst he; simp at h), h.2.2.2.2]

set_option maxHeartbeats 4000000 in
set_option maxRecDepth 100000 in
theorem law_KeysOrder (a b : List UInt8) (x y : Nat) (w : World) (hb : BitsOk w) (ha : a.length ≤ 9223372036854775807) (hb' : b.length ≤ 9223372036854775807) (hx : x < U64) (hy : y < U64) :
    Calls Tryd.prog 9 #[.string (st a), .string (st b), .agg #[.int .u64 x, .int .u64 y]] w fun e w' => e = .returned (.bool true) ∧ Below w.heap.size w w' := by
  have HB := Lib.hid hb
  clear hb
  go_enter Tryd.func9, Tryd.ntmps9
  go_wp2_with fail
  go_quiet (fail)
  go_wp2_with fail
  generalize hW : ((w.alloc (.cells #[.int .u64 x, .int .u64 y] 44)).drewN _) = w0
  have q0 : Below w.heap.size w w0 := by rw [← hW]; exact below_drewN ((Below.refl _ _).alloc (Nat.le_refl _) _) _
  clear hW
  by_cases h1 : 64 < a.length
  · refine (kput_long a x w0 h1 ha).mono ?_
    rintro e w1 ⟨rfl, rfl⟩
    by_cases h2 : 64 < b.length
    · go_wp2_with fail
      refine (kput_long b y w0 h2 hb').mono ?_
      rintro e w1 ⟨rfl, rfl⟩
      go_wp2_with fail
      refine (awake4_any w0 (HB.out.later q0)).mono ?_
      rintro e w1 ⟨rfl, hbl1⟩
      have q1 := below_chain q0 hbl1
      go_wp2_with fail
      refine (awake4_any w1 (HB.out.later q1)).mono ?_
      rintro e w2 ⟨rfl, hbl2⟩
      go_wp2_with fail
      go_ret
      exact ⟨rfl, below_chain q1 hbl2⟩
    · go_wp2_with fail
      refine (kput_ok b y w0 (HB.out.later q0) hy (by omega)).mono ?_
      rintro e w1 ⟨A1, k1, c1, rfl, _, hbl0⟩
      have q0' := below_chain q0 hbl0
      go_wp2_with fail
      refine (awake4_any w1 (HB.out.later q0')).mono ?_
      rintro e w2 ⟨rfl, hbl1⟩
      have q1 := below_chain q0' hbl1
      go_wp2_with fail
      refine (awake4_any w2 (HB.out.later q1)).mono ?_
      rintro e w3 ⟨rfl, hbl2⟩
      go_wp2_with fail
      go_ret
      exact ⟨rfl, below_chain q1 hbl2⟩
  · refine (kput_ok a x w0 (HB.out.later q0) hx (by omega)).mono ?_
    rintro e w1 ⟨A1, k1, c1, rfl, hown1, hbl1⟩
    have HO1 := Lib.hid hown1
    have q1 := below_chain q0 hbl1
    clear hown1 q0 hbl1
    by_cases h2 : 64 < b.length
    · go_wp2_with fail
      refine (kput_long b y w1 h2 hb').mono ?_
      rintro e w2 ⟨rfl, rfl⟩
      go_wp2_with fail
      refine (awake4_any w1 (HB.out.later q1)).mono ?_
      rintro e w2 ⟨rfl, hbl1⟩
      have q2 := below_chain q1 hbl1
      go_wp2_with fail
      refine (awake4_any w2 (HB.out.later q2)).mono ?_
      rintro e w3 ⟨rfl, hbl2⟩
      go_wp2_with fail
      go_ret
      exact ⟨rfl, below_chain q2 hbl2⟩
    · have hk1 : (keyPut a x).length ≤ 1000 := by have := keyB_len a; simp [keyPut, beB_length]; omega
      have hk2 : (keyPut b y).length ≤ 1000 := by have := keyB_len b; simp [keyPut, beB_length]; omega
      go_wp2_with fail
      refine (kput_ok b y w1 (HB.out.later q1) hy (by omega)).mono ?_
      rintro e w2 ⟨A2, k2, c2, rfl, hown2, hbl2⟩
      have HO2 := Lib.hid hown2
      have HO1' := Lib.hid (HO1.out.later hbl2)
      have q2 := below_chain q1 hbl2
      clear hown2 HO1 hbl2 q1
      go_wp2_with fail
      refine (awake4_any w2 (HB.out.later q2)).mono ?_
      rintro e w3 ⟨rfl, hbl3⟩
      have HO2' := Lib.hid (HO2.out.later hbl3)
      have HO1 := Lib.hid (HO1'.out.later hbl3)
      have q3 := below_chain q2 hbl3
      clear HO2 HO1' hbl3 q2
      go_wp2_with fail
      refine (cmp_any _ _ _ _ (keyPut a x) (keyPut b y) w3 (by omega) (by omega) HO1.out.bs HO2'.out.bs).mono ?_
      rintro e w4 ⟨rfl, hdr⟩
      have q4 := q3.trans (hdr.below _)
      clear hdr q3 HO1 HO2'
      have o0 := less_irr a
      rcases order_cases a b x y hx hy with ⟨hc, o1, o2, o3⟩ | ⟨hc, o1, o2, o3⟩ | ⟨rfl, ⟨hc, o1⟩ | ⟨hc, o1⟩ | ⟨hc, rfl⟩⟩
      case' inr.inr.inl =>
        have o2 : decide (x < y) = false := by rw [decide_eq_false_iff_not]; omega
        have o4 : decide (y < x) = true := by rw [decide_eq_true_eq]; exact o1
      case' inr.inr.inr.inl =>
        have o2 : decide (y < x) = false := by rw [decide_eq_false_iff_not]; omega
        have o4 : decide (x < y) = true := by rw [decide_eq_true_eq]; exact o1
      all_goals
        rw [hc]
        clear hc
        go_wp2_with fail
        go_ret
        exact ⟨rfl, q4⟩
end Go.Proofs.YtdmighkfmbcbmaaDoor
