/- The document's answer of layer 9: Bytes; the pages that are taken. -/
import Derived.Test.YtlhdeclimodfdaaDoorSpaF
import Derived.Test.YtlhdeclimodfdaaDoorSpaG
import Derived.Test.YtlhdeclimodfdaaDoorNumR
namespace Go.Proofs.YtlhdeclimodfdaaDoor
open Go Go.RowKit
set_option linter.unusedVariables false

def tvB : Value → Bool | .bool b => b | _ => false
theorem encR_same {r : Nat} {t : Bool} {l : List Bool} {i : Nat} (hi : i < l.length) (h : l.getD i false = t) : encR r t (l.drop i) = encR (r + 1) t (l.drop (i + 1)) := by
  rw [List.drop_eq_getElem_cons hi, encR, if_pos (by rw [← h]; simp [List.getD_eq_getElem?_getD, hi])]
theorem encR_other {r : Nat} {t : Bool} {l : List Bool} {i : Nat} (hi : i < l.length) (h : l.getD i false = !t) : encR r t (l.drop i) = varB r ++ encR 0 (!t) (l.drop i) := by
  have hb : l[i] = !t := by rw [← h]; simp [List.getD_eq_getElem?_getD, hi]
  rw [List.drop_eq_getElem_cons hi, encR, if_neg (by rw [hb]; cases t <;> simp), encR, if_pos hb, hb]
theorem encR_end {r : Nat} {t : Bool} {l : List Bool} {i : Nat} (hi : ¬ i < l.length) : encR r t (l.drop i) = varB r := by
  rw [List.drop_eq_nil_of_le (by omega), encR]

set_option maxHeartbeats 1000000 in
set_option maxRecDepth 100000 in
theorem refBytes_any (B : Nat) (v : Value) (l : List Bool) (w : World) (hf : Fl w B v l) (hl : 0 < l.length) (hl2 : l.length ≤ 256) :
    Calls Tryd.prog 28 #[v] w fun e w' => e = .returned (.string (st (spB l))) ∧ Below w.heap.size w w' := by
  obtain ⟨g, c, rfl, _, hgl, hc, _⟩ := hf.open hl
  have HC := Lib.hid hc
  have hle := spB_le hl2
  have HE : Hid (spB l = varB l.length ++ encR 0 false (l.drop 0)) := spB_enc l
  have he : Hid ((⟨#[]⟩ : ByteArray) = st []) := st_empty
  have hq := wrap_u64 (n := (l.length : Int)) (by omega) (by unfold U64; omega)
  clear hc hf
  go_enter Tryd.func28, Tryd.ntmps28
  go_wp2_with fail
  refine (refVar_any l.length w (by unfold U64; omega)).mono ?_
  rintro e w1 ⟨rfl, hbl1⟩
  go_wp2_with fail
  clear hq
  go_loopw [3, 4, 5, 6] (fun sv iv tv _ wr => ∃ (i : Nat) (t : Bool) (d : List UInt8), sv = .string (st d) ∧ iv = .int .i64 (i : Int) ∧ tv = .bool t ∧ i ≤ l.length ∧ d.length ≤ 10000 ∧ ((i < l.length ∧ Hid (spB l = d ++ encR 0 t (l.drop i))) ∨ (i = l.length ∧ Hid (spB l = d))) ∧ Below w.heap.size w wr)
    (fun _ iv tv _ _ => 2 * (l.length - (intOf iv).toNat) + (if l.getD (intOf iv).toNat false = tvB tv then 0 else 1))
  case atStart => exact ⟨0, false, _, rfl, rfl, rfl, by omega, by have := varB_le 8 l.length (Nat.lt_of_le_of_lt hl2 (by decide)); omega, .inl ⟨hl, HE.out⟩, hbl1⟩
  case round =>
    obtain ⟨i, t, d, rfl, rfl, rfl, hi, hd, hcase, hbl⟩ := hrel
    clear hbl1
    have hsz := hbl.size
    rcases hcase with ⟨hil, hE⟩ | ⟨rfl, hE⟩
    · have hii : (i : Int) < (l.length : Int) := by omega
      go_wp2_with fail
      go_loop [4, 6] (fun iv nv => ∃ n : Nat, iv = .int .i64 ((i + n : Nat) : Int) ∧ nv = .int .i64 (n : Int) ∧ i + n ≤ l.length ∧ Hid (encR 0 t (l.drop i) = encR n t (l.drop (i + n))) ∧ (0 < n → l.getD i false = t)) (fun iv _ => l.length - (intOf iv).toNat)
      case atStart => exact ⟨0, rfl, rfl, by omega, rfl, fun h => absurd h (by omega)⟩
      case round =>
        obtain ⟨n, rfl, rfl, hin, hEn, hgi⟩ := hrel
        have hq := wrap_u64 (n := (n : Int)) (by omega) (by unfold U64; omega)
        have e0 : ((i : Int) + (n : Int)).toNat = i + n := by omega
        have hvn := varB_le 8 n (Nat.lt_of_le_of_lt (by omega : n ≤ 256) (by decide))
        by_cases hlt : i + n < l.length
        · have hcn : wr.cell? ⟨g, i + n, none⟩ = some (.bool (l.getD (i + n) false)) := (hbl.cell (p := ⟨g, i + n, none⟩) hgl).trans (HC.out _ hlt)
          by_cases hb : l.getD (i + n) false = t
          · have hE2 : Hid (encR 0 t (l.drop i) = encR (n + 1) t (l.drop (i + (n + 1)))) := hEn.out.trans (encR_same hlt hb)
            have hg2 : l.getD i false = t := by
              by_cases h0 : n = 0
              · subst h0; exact hb
              · exact hgi (by omega)
            rw [hb] at hcn
            clear hgi hEn hb
            cases t <;>
            · go_wp2_with fail
              go_round
              case rel => exact ⟨n + 1, by go_num, by go_num, by omega, hE2, fun _ => hg2⟩
              case measure => simp [intOf]; omega
          · have hb2 : l.getD (i + n) false = !t := by revert hb; cases l.getD (i + n) false <;> cases t <;> simp
            have hE2 : Hid (spB l = (d ++ varB n) ++ encR 0 (!t) (l.drop (i + n))) := by rw [Hid, hE.out, hEn.out, encR_other hlt hb2, List.append_assoc]
            have hd2 : (d ++ varB n).length ≤ 10000 := by have := congrArg List.length hE2.out; rw [List.length_append] at this; omega
            have hlen : d.length + (varB n).length ≤ 20000 := by rw [List.length_append] at hd2; omega
            have hms : 2 * (l.length - (i + n)) + (if l.getD (i + n) false = !t then 0 else 1) < 2 * (l.length - i) + (if l.getD i false = t then 0 else 1) := by
              rw [if_pos hb2]
              by_cases h0 : n = 0
              · subst h0; rw [if_neg (by simpa using hb)]; omega
              · split <;> omega
            rw [hb2] at hcn
            have HM := Lib.hid hms
            clear hgi hEn hb hb2 hE hms hd
            cases t <;>
            · go_wp2_with fail
              refine (refVar_any n wr (by unfold U64; omega)).mono ?_
              rintro e w3 ⟨rfl, hbl3⟩
              have q3 := below_chain hbl hbl3
              go_wp2_with fail
              go_roundw
              case rel => exact ⟨i + n, _, _, rfl, rfl, rfl, by omega, hd2, .inl ⟨hlt, hE2⟩, q3⟩
              case measure => simpa [intOf, tvB, e0] using HM.out
        · have hE2 : Hid (spB l = d ++ varB n) := by rw [Hid, hE.out, hEn.out, encR_end hlt]
          have hd2 : (d ++ varB n).length ≤ 10000 := by have := congrArg List.length hE2.out; omega
          have hlen : d.length + (varB n).length ≤ 20000 := by rw [List.length_append] at hd2; omega
          have hms : 2 * (l.length - (i + n)) + (if l.getD (i + n) false = !t then 0 else 1) < 2 * (l.length - i) + (if l.getD i false = t then 0 else 1) := by
            split <;> split <;> omega
          have HM := Lib.hid hms
          clear hgi hEn hE hms hd
          go_wp2_with fail
          refine (refVar_any n wr (by unfold U64; omega)).mono ?_
          rintro e w3 ⟨rfl, hbl3⟩
          have q3 := below_chain hbl hbl3
          go_wp2_with fail
          go_roundw
          case rel => exact ⟨i + n, _, _, rfl, rfl, rfl, by omega, hd2, .inr ⟨by omega, hE2⟩, q3⟩
          case measure => simpa [intOf, tvB, e0] using HM.out
    · go_wp2_with fail
      go_ret
      exact ⟨by rw [hE.out]; rfl, hbl⟩

/-! ### The pages that are taken -/
def takenN (l : List Bool) (j : Nat) : List Nat := (List.range j).filter fun q => l.getD q false
theorem takenN_yes {l : List Bool} {j : Nat} (h : l.getD j false = true) : takenN l (j + 1) = takenN l j ++ [j] := by
  unfold takenN; rw [List.range_succ, List.filter_append, List.filter_cons_of_pos (p := fun q => l.getD q false) h]; rfl
theorem takenN_no {l : List Bool} {j : Nat} (h : l.getD j false = false) : takenN l (j + 1) = takenN l j := by
  unfold takenN; rw [List.range_succ, List.filter_append, List.filter_cons_of_neg (by rw [h]; simp)]; simp
theorem takenN_le (l : List Bool) (j : Nat) : (takenN l j).length ≤ j := by
  have := List.length_filter_le (fun q => l.getD q false) (List.range j)
  rw [List.length_range] at this; exact this
theorem takenN_pre (l : List Bool) (j k : Nat) : ∃ r, takenN l (j + k) = takenN l j ++ r := by
  induction k with
  | zero => exact ⟨[], by simp⟩
  | succ k ih =>
    obtain ⟨r, hr⟩ := ih
    cases h : l.getD (j + k) false with
    | true => exact ⟨r ++ [j + k], by rw [← Nat.add_assoc, takenN_yes h, hr, List.append_assoc]⟩
    | false => exact ⟨r, by rw [← Nat.add_assoc, takenN_no h, hr]⟩
theorem takenN_at {l : List Bool} {q : Nat} (hq : q < l.length) (h : l.getD q false = true) : (takenN l q).length < (takenN l l.length).length ∧ (takenN l l.length).getD (takenN l q).length 0 = q := by
  obtain ⟨r, hr⟩ := takenN_pre l (q + 1) (l.length - (q + 1))
  rw [show q + 1 + (l.length - (q + 1)) = l.length by omega, takenN_yes h] at hr
  rw [hr]
  refine ⟨by simp, ?_⟩
  simp [List.getD_eq_getElem?_getD]
theorem takenN_count (l : List Bool) : ∀ j, j ≤ l.length → (takenN l j).length = (l.take j).count true
  | 0, _ => by simp [takenN]
  | j + 1, hj => by
    have ih := takenN_count l j (by omega)
    rw [List.take_add_one, List.count_append, ← ih, List.getElem?_eq_getElem (by omega)]
    cases h : l.getD j false with
    | true =>
      have hb : l[j] = true := by simpa [List.getD_eq_getElem?_getD, (by omega : j < l.length)] using h
      rw [takenN_yes h, hb]; simp
    | false =>
      have hb : l[j] = false := by simpa [List.getD_eq_getElem?_getD, (by omega : j < l.length)] using h
      rw [takenN_no h, hb]; simp
end Go.Proofs.YtlhdeclimodfdaaDoor
