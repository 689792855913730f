/- The statements of layer 2: SumBursts. -/
import Derived.Test.YtgoemlcbpnnciabDoorSumC
import Derived.Test.YtgoemlcbpnnciabDoorSumQ
import Derived.Laws.OwnMore
namespace Go.Proofs.YtgoemlcbpnnciabDoor
open Go Go.RowKit
set_option linter.unusedVariables false

theorem bit32_test (u i : Nat) (hu : u < 4294967296) (hi : i < 32) : (bits .and .u32 ((u : Int) / 2 ^ (31 - i)) 1 == 1) = u.testBit (31 - i) := by
  have e : ((u : Int) / 2 ^ (31 - i)) = ((u / 2 ^ (31 - i) : Nat) : Int) := by rw [Int.natCast_ediv, Int.natCast_pow]; rfl
  have hle : u / 2 ^ (31 - i) ≤ u := Nat.div_le_self _ _
  have h := u32_and_nat (u / 2 ^ (31 - i)) 1 (by omega) (by omega)
  rw [e, show (1 : Int) = ((1 : Nat) : Int) from rfl, h, Nat.and_one_is_mod, Nat.testBit_eq_decide_div_mod_eq]
  rcases Nat.mod_two_eq_zero_or_one (u / 2 ^ (31 - i)) with h | h <;> rw [h] <;> rfl
theorem shr128 (k : Nat) (hk : k < 8) : (128 : Int) / (2 : Int) ^ k = ((128 >>> k : Nat) : Int) := by
  have : ∀ k, k < 8 → (128 : Int) / (2 : Int) ^ k = ((128 >>> k : Nat) : Int) := by decide
  exact this k hk
theorem shr128_lt (k : Nat) (hk : k < 8) : 128 >>> k < 256 := by
  have : ∀ k, k < 8 → 128 >>> k < 256 := by decide
  exact this k hk
theorem xor_byte (b : UInt8) (y : Nat) (hy : y < 256) : bits .xor .u8 (b.toNat : Int) (y : Int) = ((b ^^^ UInt8.ofNat y).toNat : Int) := by
  rw [u8_xor_nat _ _ b.toNat_lt hy, UInt8.toNat_xor, UInt8.toNat_ofNat', Nat.mod_eq_of_lt hy]

theorem bv_set (l : List UInt8) (j : Nat) (b : UInt8) : bv (l.set j b) = (bv l).set j (.int .u8 (b.toNat : Int)) := by simp [bv, List.map_set]
/-- One byte of the call's own is stored anew. -/
theorem Ob.store {e : TypeId} {w : World} {B g k c : Nat} {l : List UInt8} (h : Ob e w B (.slice (some ⟨g, 0, none⟩) k c) l) (j : Nat) (b : UInt8) :
    Ob e (w.setCell ⟨g, j, none⟩ (.int .u8 (b.toNat : Int))) B (.slice (some ⟨g, 0, none⟩) k c) (l.set j b) := by
  have hk := h.len
  subst hk
  unfold Ob
  rw [bv_set, List.length_set]
  exact (World.ownsRow.stored h j _).1
theorem Ob.at {e : TypeId} {w : World} {B g k c : Nat} {l : List UInt8} (h : Ob e w B (.slice (some ⟨g, 0, none⟩) k c) l) {j : Nat} (hj : j < l.length) : w.cell? ⟨g, j, none⟩ = some (.int .u8 (l[j].toNat : Int)) := by
  have hk := h.len
  subst hk
  rw [World.ownsRow.cellAt h j (by omega)]
  exact bv_at hj
theorem Ob.free {e : TypeId} {w : World} {B g k c : Nat} {l : List UInt8} (h : Ob e w B (.slice (some ⟨g, 0, none⟩) k c) l) (j : Nat) : w.frozen? ⟨g, j, none⟩ = false := by
  have hk := h.len
  subst hk
  exact World.ownsRow.frozenAt h j
theorem Ob.head {e : TypeId} {w : World} {B k c : Nat} {A : Option Addr} {l : List UInt8} (h : Ob e w B (.slice A k c) l) (hl : 0 < l.length) : ∃ g, A = some ⟨g, 0, none⟩ ∧ B ≤ g := by
  rcases h.2 with ⟨h1, h2⟩ | ⟨g, cap, cur, hv, hb, _⟩
  · omega
  · injection hv with h1 _ _
    exact ⟨g, h1, hb⟩

theorem ret_boolT {a b : Bool} (h : a = b) : Ending.returned (.bool a) = .returned (.bool b) := by rw [h]
theorem openB_not {B : List UInt8} (h4 : 4 ≤ B.length) (h : ∀ t, B ≠ sealB t) : openB B = .error 21 := by
  unfold openB
  rw [if_neg (by omega), if_neg (fun he => h _ he.symm)]
theorem sealB_len (l : List UInt8) : (sealB l).length = l.length + 4 := by simp [sealB, beB_length]

set_option maxHeartbeats 4000000 in
set_option maxRecDepth 100000 in
theorem law_SumBursts (l : List UInt8) (at_ u : Nat) (w : World) (hb : BitsOk w) (hl : l.length ≤ 9223372036854775807) (hat : at_ < 65536) (hu : u < 4294967296) :
    Calls Tryd.prog 3 #[.string (st l), .int .u16 at_, .int .u32 u] w fun e w' => e = .returned (.bool true) ∧ Below w.heap.size w w' := by
  have HB := Lib.hid hb
  clear hb
  by_cases hlen : 300 < l.length
  · have t1 : (300 : Int) < (l.length : Int) := by omega
    go_enter Tryd.func3, Tryd.ntmps3
    go_wp2_with fail
    refine (awake2_any w HB.out).mono ?_
    rintro e w1 ⟨rfl, hbl1⟩
    go_wp2_with fail
    go_ret
    exact ⟨rfl, hbl1⟩
  · have t1 : ¬ (300 : Int) < (l.length : Int) := by omega
    have ml : l.length ≤ maxLen := by simp only [maxLen]; omega
    have hl' : l.length ≤ 1099511627776 := by omega
    go_enter Tryd.func3, Tryd.ntmps3
    go_wp2_with (refine wpList_bytes_of_st _ rfl (.tmp 19) rfl tS tB tU ml rfl ?_; intro A2 c2 w2 hbs2 hbl2 hsz2)
    refine (seal_any _ _ l w2 (HB.out.later hbl2) hl' hbs2).mono ?_
    rintro e w3 ⟨A3, k3, c3, rfl, hown3, hbl3⟩
    have hk := hown3.len
    have hs3 := hbl2.size
    have hown3' : Ob 5 w3 w.heap.size (.slice A3 k3 c3) (sealB l) := hown3.lower hs3
    obtain ⟨g, rfl, hg⟩ := hown3'.head (by rw [sealB_len]; omega)
    have hk2 : k3 = l.length + 4 := by rw [hk, ← sealB_len l]; rfl
    have q3 := below_chain hbl2 hbl3
    have hk4 : 4 ≤ k3 := by omega
    have hk304 : k3 ≤ 304 := by omega
    have HK : Hid (k3 = (sealB l).length) := by rw [Hid, hk2, sealB_len]
    have HO3 := Lib.hid hown3'
    clear hown3 hown3' hbl2 hbl3 hsz2 hbs2 hk hk2 hs3
    go_wp2_with fail
    refine (awake2_any w3 (HB.out.later q3)).mono ?_
    rintro e w4 ⟨rfl, hbl4⟩
    have HO4 := Lib.hid (HO3.out.later hbl4)
    have q4 := below_chain q3 hbl4
    clear HO3 q3 hbl4
    by_cases hz : u = 0
    · subst hz
      go_wp2_with fail
      refine (awake2_any w4 (HB.out.later q4)).mono ?_
      rintro e w5 ⟨rfl, hbl5⟩
      go_wp2_with fail
      go_ret
      exact ⟨ret_boolT (by rw [decide_eq_true_eq]; omega), below_chain q4 hbl5⟩
    · have tz : ((u : Int) == 0) = false := by rw [beq_eq_false_iff_ne]; omega
      obtain ⟨f, hf⟩ : ∃ f : Nat, f = at_ % (8 * k3) := ⟨_, rfl⟩
      have hfi : (at_ : Int) % (8 * (k3 : Int)) = (f : Int) := by rw [hf]; simp
      have hfl : f < 8 * k3 := by rw [hf]; exact Nat.mod_lt _ (by omega)
      have HF := Lib.hid hfi
      clear hz hf hfi
      go_wp2_with fail
      rw [HF.out]
      go_loopw [10, 11, 12] (fun tv iv kv wr => ∃ (i : Nat) (B : List UInt8), iv = .int .i64 (i : Int) ∧ i ≤ 32 ∧ f + i ≤ 8 * k3 ∧ tv = .bool (anyT u i) ∧ Ob 5 wr w.heap.size (.slice (some ⟨g, 0, none⟩) k3 c3) B ∧ Hid (Burst (sealB l) f u i B) ∧ Below w.heap.size w wr) (fun _ iv _ _ => 32 - (intOf iv).toNat)
      case atStart => exact ⟨0, sealB l, rfl, by omega, by omega, rfl, HO4.out, Burst.start _ _ _ (by rw [← HK.out]; omega), q4⟩
      case round =>
        obtain ⟨i, B, rfl, hi, hfi, rfl, hob, HBu, hbl⟩ := hrel
        have hsz := hbl.size
        by_cases hgo : i < 32 ∧ f + i < 8 * k3
        · obtain ⟨hi32, hfn⟩ := hgo
          have HT := Lib.hid (bit32_test u i hu hi32)
          have HA := Lib.hid (anyT_succ u i)
          have hbl8 : f + i < 8 * (sealB l).length := by rw [← HK.out]; exact hfn
          cases hbit : u.testBit (31 - i)
          case false =>
            have HB2 : Hid (Burst (sealB l) f u (i + 1) B) := HBu.out.skip hbl8 hbit
            have HA2 : Hid (anyT u i = anyT u (i + 1)) := by rw [Hid, HA.out, hbit, Bool.or_false]
            have ht := HT.out
            rw [hbit] at ht
            clear hbit HA HT hbl8
            go_wp2_with fail
            go_roundw
            case rel => exact ⟨i + 1, B, by go_num, by omega, by omega, by rw [HA2.out], hob, HB2, hbl⟩
            case measure => simp [intOf]; omega
          case true =>
            have HB2 : Hid (Burst (sealB l) f u (i + 1) (flipB B (f + i))) := HBu.out.turn hbl8 hbit
            have HA2 : Hid (anyT u (i + 1) = true) := by rw [Hid, HA.out, hbit, Bool.or_true]
            have ht := HT.out
            rw [hbit] at ht
            have hBl : B.length = k3 := by rw [HBu.out.1, HK.out]
            have hj : (f + i) / 8 < B.length := by omega
            have hc := hob.at hj
            have hfz := hob.free ((f + i) / 8)
            have h128 := shr128 ((f + i) % 8) (by omega)
            have h128l := shr128_lt ((f + i) % 8) (by omega)
            have hxb := xor_byte B[(f + i) / 8] _ h128l
            have HFl : Hid (flipB B (f + i) = B.set ((f + i) / 8) (B[(f + i) / 8] ^^^ UInt8.ofNat (128 >>> ((f + i) % 8)))) := by
              rw [Hid, flipB, List.getD_eq_getElem?_getD, List.getElem?_eq_getElem hj]; rfl
            generalize B[(f + i) / 8] ^^^ UInt8.ofNat (128 >>> ((f + i) % 8)) = nb at *
            have HOn := Lib.hid (hob.store ((f + i) / 8) nb)
            have hx256 : B[(f + i) / 8].toNat < 256 := B[(f + i) / 8].toNat_lt
            generalize B[(f + i) / 8].toNat = x at *
            rw [← h128] at hxb
            have HXB := Lib.hid hxb
            clear hxb h128 h128l
            have hnb := nb.toNat_lt
            clear hbit HA HT hbl8 hBl
            go_wp2_with fail
            go_roundw
            case rel => exact ⟨i + 1, flipB B (f + i), by go_num, by omega, by omega, by rw [HA2.out], by rw [HFl.out, HXB.out]; exact HOn.out, HB2, hbl.setCell hg _⟩
            case measure => simp [intOf]; omega
        · have hBl : B.length = k3 := by rw [HBu.out.1, HK.out]
          have hB4 : 4 ≤ B.length := by omega
          have hBm : B.length ≤ 1099511627776 := by omega
          have hfl8 : f + i ≤ 8 * (sealB l).length := by rw [← HK.out]; exact hfi
          have hcase : ¬ i < 32 ∨ (i < 32 ∧ ¬ f + i < 8 * k3) := by omega
          cases ht : anyT u i
          case false =>
            have hBe : B = sealB l := bitsL_inj _ _ HBu.out.1 (HBu.out.none hfl8 ht)
            have HOk : Hid (openB B = .ok l) := by rw [Hid, hBe]; exact openB_seal l
            clear hBe ht hgo HBu hBl hB4 hfl8
            rcases hcase with ti | ⟨ti, tf⟩
            all_goals
              go_wp2_with fail
              refine (open_any _ _ B wr hBm hob.bs).mono ?_
              rintro e w6 ⟨hok, _, hbl6⟩
              obtain ⟨A6, k6, c6, rfl, _⟩ := hok l HOk.out
              clear hok
              go_wp2_with fail
              go_ret
              exact ⟨rfl, hbl.trans (hbl6.mono hsz)⟩
          case true =>
            have HOk : Hid (openB B = .error 21) := openB_not hB4 fun t => HBu.out.seen hfl8 hi ht
            clear ht hgo HBu hBl hB4 hfl8
            rcases hcase with ti | ⟨ti, tf⟩
            all_goals
              go_wp2_with fail
              refine (open_any _ _ B wr hBm hob.bs).mono ?_
              rintro e w6 ⟨_, herr, hbl6⟩
              obtain rfl := herr 21 HOk.out
              clear herr
              go_wp2_with fail
              go_ret
              exact ⟨rfl, hbl.trans (hbl6.mono hsz)⟩
end Go.Proofs.YtgoemlcbpnnciabDoor
