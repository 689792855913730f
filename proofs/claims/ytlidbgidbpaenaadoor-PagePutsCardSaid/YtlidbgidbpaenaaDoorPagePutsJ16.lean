/- What the proof of PagePuts needs, part 16. -/
import Derived.Test.YtlidbgidbpaenaaDoorPagePutsJ1
import Derived.Test.YtlidbgidbpaenaaDoorPagePutsJ2
import Derived.RegionTactic

namespace Go.Proofs.YtlidbgidbpaenaaDoor
open Go Go.RowKit
set_option linter.unusedVariables false

def GetVarPost (l : List UInt8) (w : World) (e : Ending) (w' : World) : Prop :=
  (∀ x n, getVarB l = .ok (x, n) → ∃ A k c, e = .returned (.tuple #[.int .u64 (x : Int), .slice A k c, .int .i64 0]) ∧ Ob 5 w' w.heap.size (.slice A k c) (l.drop n) ∧ Below w.heap.size w w') ∧
  (∀ er, getVarB l = .error er → e = .returned (.tuple #[.int .u64 0, .slice none 0 0, .int .i64 (er : Int)]) ∧ Below w.heap.size w w')

/-- One round of the reading: the byte that stands at i. -/
theorem getV_at {l : List UInt8} {i a : Nat} (h : i < l.length) {r : Except Nat (Nat × Nat)} (hg : getV i a (l.drop i) = r) :
    (if (i = 9 ∧ 1 < l[i].toNat) ∨ (0 < i ∧ l[i].toNat = 0) then .error 12 else if l[i].toNat < 128 then .ok (a + l[i].toNat * 128 ^ i, i + 1) else getV (i + 1) (a + (l[i].toNat % 128) * 128 ^ i) (l.drop (i + 1))) = r := by
  rw [← hg, List.drop_eq_getElem_cons h, getV]
theorem getV_end {l : List UInt8} {i a : Nat} (h : ¬ i < l.length) {r : Except Nat (Nat × Nat)} (hg : getV i a (l.drop i) = r) : r = .error 10 := by
  rw [← hg, List.drop_eq_nil_of_le (by omega), getV]
theorem post_err {l : List UInt8} {w : World} {er : Nat} (h : getVarB l = .error er) : GetVarPost l w (.returned (.tuple #[.int .u64 0, .slice none 0 0, .int .i64 (er : Int)])) w :=
  ⟨fun x n hx => (by rw [h] at hx; cases hx), fun er' h' => by rw [h] at h'; cases h'; exact ⟨rfl, Below.refl _ _⟩⟩
theorem post_okv {l : List UInt8} {w w' : World} {x n : Nat} (h : getVarB l = .ok (x, n)) {A : Option Addr} {k c : Nat} (hown : Ob 5 w' w.heap.size (.slice A k c) (l.drop n)) (hb : Below w.heap.size w w') :
    GetVarPost l w (.returned (.tuple #[.int .u64 (x : Int), .slice A k c, .int .i64 0])) w' :=
  ⟨fun x' n' hx => (by rw [h] at hx; cases hx; exact ⟨A, k, c, rfl, hown, hb⟩), fun er' h' => by rw [h] at h'; cases h'⟩

set_option maxHeartbeats 1000000 in
set_option maxRecDepth 100000 in
theorem getVar_any (S : Nat → Prop) (v0 : Value) (l : List UInt8) (w : World) (hl : l.length ≤ 1099511627776) (hr : Bs S w v0 l) :
    Calls Tryd.prog 77 #[v0] w (GetVarPost l w) := by
  have HR := Lib.hid hr
  obtain ⟨A, c, rfl, hlc, hcm, hA0, hA⟩ := hr.at
  have HA := Lib.hid hA
  clear hA hr
  go_enter Tryd.func77, Tryd.ntmps77
  go_wp2_with fail
  go_loop [5, 10] (fun av iv => ∃ (i a : Nat), iv = .int .i64 (i : Int) ∧ av = .int .u64 (a : Int) ∧ i ≤ l.length ∧ i ≤ 9 ∧ Hid (a < 128 ^ i) ∧ Hid (getV i a (l.drop i) = getVarB l)) (fun _ iv => l.length - (intOf iv).toNat)
  case atStart => exact ⟨0, 0, rfl, rfl, by omega, by omega, by simp [Hid], by simp [getVarB, Hid]⟩
  case round =>
    obtain ⟨i, a, rfl, rfl, hi, hi9, HA2, hg⟩ := hrel
    by_cases hil : i < l.length
    · obtain ⟨b, o, rfl, _, hcell⟩ := HA.out (by omega)
      have hc := hcell i hil
      clear hcell HA
      have HG := Lib.hid (getV_at hil hg.out)
      clear hg
      obtain ⟨x, hx⟩ : ∃ x, x = l[i].toNat := ⟨_, rfl⟩
      have hx256 : x < 256 := hx ▸ l[i].toNat_lt
      rw [← hx] at hc HG
      clear hx
      by_cases h1 : i = 9 ∧ 1 < x
      · have t1 : ((i : Int) == 9) = true := by simp; omega
        have t2 : (1 : Int) < (x : Int) := by omega
        have H1 := Lib.hid h1
        clear h1
        go_wp2_with fail
        go_ret3
        refine post_err ?_
        have h := HG.out
        rw [if_pos (.inl H1.out)] at h
        exact h.symm
      · by_cases h2 : 0 < i ∧ x = 0
        · have t1 : ((i : Int) == 9) = false ∨ ((i : Int) == 9) = true := by cases ((i : Int) == 9) <;> simp
          have t2 : ((x : Int) == 0) = true := by simp; omega
          have t3 : ¬ (1 : Int) < (x : Int) := by omega
          have H2 := Lib.hid h2
          have t0 : (0 : Int) < (i : Int) := by omega
          clear h2
          rcases t1 with t1 | t1
          all_goals
            go_wp2_with fail
            go_ret3
            refine post_err ?_
            have h := HG.out
            rw [if_pos (.inr H2.out)] at h
            exact h.symm
        · by_cases h3 : x < 128
          · have hok : getVarB l = .ok (a + x * 128 ^ i, i + 1) := by
              have h := HG.out
              rw [if_neg (by omega), if_pos h3] at h
              exact h.symm
            have hb := (getVarB_bound hok).1
            have hor := shl_or a x i HA2.out (by omega) (by omega)
            obtain ⟨y, hy⟩ : ∃ y, y = a + x * 128 ^ i := ⟨_, rfl⟩
            rw [← hy] at hor hok
            have HO := Lib.hid hok
            clear hok hb hy
            have tx : ((x : Int) < 128) := by omega
            have hdr : l.length - (i + 1) ≤ l.length := by omega
            have hcut := Lib.hid (Bs.cut HR.out (show i + 1 ≤ l.length from hil))
            by_cases h9 : i = 9
            case' pos =>
              have t1 : ((i : Int) == 9) = true := by simp; omega
              have t3 : ¬ (1 : Int) < (x : Int) := by omega
              have t0 : (0 : Int) < (i : Int) := by omega
              have t2 : ((x : Int) == 0) = false := by simp; omega
              clear h9 h1 h2
            case' neg =>
              have t1 : ((i : Int) == 9) = false := by simp; omega
              clear h9
              by_cases h0 : 0 < i
              case' pos =>
                have t0 : (0 : Int) < (i : Int) := by omega
                have t2 : ((x : Int) == 0) = false := by simp; omega
              case' neg =>
                have t0 : ¬ (0 : Int) < (i : Int) := by omega
            all_goals
              try clear h1 h2
              go_wp2_with (at_builtin; go_loud (refine wpList_append_bs _ rfl (.tmp 50) (.tmp 54) elemU8 rfl (Ob.made _ _ w.heap.size (by simp) (by simp)) (Sl.alloc1 hcut.out _) rfl rfl (by simp; omega) (by simp) ?_); intro A1 k1 c1 w1 hown1 hg1 hat1)
              all_goals
                go_ret3
                exact post_okv HO.out (by simpa using hown1) (below_grown_own ((Below.refl _ _).alloc (Nat.le_refl _) _) (Ob.made _ _ w.heap.size (by simp) (by simp)) hg1 (by simp))
          · have hlow : x % 128 < 128 := by omega
            have hne : ¬ i = 9 := by omega
            have hst : getV (i + 1) (a + x % 128 * 128 ^ i) (l.drop (i + 1)) = getVarB l := by
              have h := HG.out
              rw [if_neg (by omega), if_neg h3] at h
              exact h
            have hp : a + x % 128 * 128 ^ i < 128 ^ (i + 1) := by
              have h1 : x % 128 * 128 ^ i ≤ 127 * 128 ^ i := Nat.mul_le_mul_right _ (by omega)
              have := HA2.out
              rw [Nat.pow_succ]; omega
            have h8 : (128 : Nat) ^ (i + 1) ≤ 128 ^ 9 := Nat.pow_le_pow_right (by omega) (by omega)
            have hand := and127 x hx256
            have hor := shl_or a (x % 128) i HA2.out (by unfold U64; omega) (by unfold U64; omega)
            obtain ⟨q, hq⟩ : ∃ q, q = x % 128 := ⟨_, rfl⟩
            rw [← hq] at hor hand hst hp hlow
            obtain ⟨y, hy⟩ : ∃ y, y = a + q * 128 ^ i := ⟨_, rfl⟩
            rw [← hy] at hor hst hp
            have t1 : ((i : Int) == 9) = false := by simp; omega
            have tx : ¬ ((x : Int) < 128) := by omega
            have t2 : ((x : Int) == 0) = false := by simp; omega
            have HS := Lib.hid hst
            have HP := Lib.hid hp
            clear hst hp hy hq h8 h1 h2 HG HA2
            by_cases h0 : 0 < i
            all_goals
              go_wp2_with fail
              go_round
              case rel => exact ⟨i + 1, y, by go_num, rfl, by omega, by omega, HP, HS⟩
              case measure => simp [intOf]; omega
    · have h := getV_end hil hg.out
      have HO := Lib.hid h
      clear h hg
      go_wp2_with fail
      go_ret3
      exact post_err HO.out

set_option maxHeartbeats 400000 in
theorem get_range (v0 : Value) (n : Int) (w : World) (hn : n < 1 ∨ 8 < n) :
    Calls Tryd.prog 65 #[v0, .int .i64 n] w fun e w' => e = .returned (.tuple #[.int .u64 0, .slice none 0 0, .int .i64 11]) ∧ w = w' := by
  rcases hn with hn | hn
  · go_enter Tryd.func65, Tryd.ntmps65
    go_wp2
    go_ret3
    exact ⟨rfl, rfl⟩
  · have h1 : ¬ n < 1 := by omega
    go_enter Tryd.func65, Tryd.ntmps65
    go_wp2
    go_ret3
    exact ⟨rfl, rfl⟩

set_option maxHeartbeats 400000 in
theorem get_short (A : Option Addr) (k c n : Nat) (w : World) (hn : 1 ≤ n) (hn8 : n ≤ 8) (hk : k < n) :
    Calls Tryd.prog 65 #[.slice A k c, .int .i64 n] w fun e w' => e = .returned (.tuple #[.int .u64 0, .slice none 0 0, .int .i64 10]) ∧ w = w' := by
  have h1 : ¬ (n : Int) < 1 := by omega
  have h2 : ¬ 8 < (n : Int) := by omega
  go_enter Tryd.func65, Tryd.ntmps65
  go_wp2
  go_ret3
  exact ⟨rfl, rfl⟩

set_option maxHeartbeats 1000000 in
set_option maxRecDepth 100000 in
theorem get_ok (S : Nat → Prop) (v0 : Value) (l : List UInt8) (n : Nat) (w : World) (hn : 1 ≤ n) (hn8 : n ≤ 8) (hk : n ≤ l.length) (hl : l.length ≤ 1099511627776) (hr : Bs S w v0 l) :
    Calls Tryd.prog 65 #[v0, .int .i64 n] w fun e w' => ∃ A k c, e = .returned (.tuple #[.int .u64 (deB (l.take n) : Int), .slice A k c, .int .i64 0]) ∧ Ob 5 w' w.heap.size (.slice A k c) (l.drop n) ∧ Below w.heap.size w w' := by
  have h1 : ¬ (n : Int) < 1 := by omega
  have h2 : ¬ 8 < (n : Int) := by omega
  have HR := Lib.hid hr
  obtain ⟨A, c, rfl, hlc, hcm, hA0, hA⟩ := hr.at
  obtain ⟨b, o, rfl, _, hcell⟩ := hA (by omega)
  have HA := Lib.hid hcell
  clear hA hr hcell
  go_enter Tryd.func65, Tryd.ntmps65
  go_wp2_with fail
  go_loop [7, 22] (fun av iv => ∃ (i a : Nat), iv = .int .i64 (i : Int) ∧ av = .int .u64 (a : Int) ∧ i ≤ n ∧ Hid (a = deB (l.take i))) (fun _ iv => n - (intOf iv).toNat)
  case atStart => exact ⟨0, 0, rfl, rfl, by omega, by simp [Hid, deB]⟩
  case round =>
    obtain ⟨i, a, rfl, rfl, hi, hg⟩ := hrel
    by_cases hin : i < n
    · have hc := HA.out i (by omega)
      clear HA
      obtain ⟨x, hx⟩ : ∃ x, x = l[i].toNat := ⟨_, rfl⟩
      have hx256 : x < 256 := hx ▸ l[i].toNat_lt
      have hs := deB_take_succ (show i < l.length by omega)
      rw [← hx] at hc hs
      have hor := shl8_or a x i (by rw [hg.out]; exact deB_take_lt l i) (by omega) hx256
      obtain ⟨y, hy⟩ : ∃ y, y = a * 256 + x := ⟨_, rfl⟩
      rw [← hy] at hor
      have HY := Lib.hid (show y = deB (l.take (i + 1)) by rw [hs, ← hg.out]; exact hy)
      clear hs hy hx
      go_wp2_with fail
      go_round
      case rel => exact ⟨i + 1, y, by go_num, rfl, by omega, HY⟩
      case measure => simp [intOf]; omega
    · obtain rfl : i = n := by omega
      have hcut := Lib.hid (Bs.cut HR.out hk)
      go_wp2_with (at_builtin; go_loud (refine wpList_append_bs _ rfl (.tmp 35) (.tmp 38) elemU8 rfl (Ob.made _ _ w.heap.size (by simp) (by simp)) (Sl.alloc1 hcut.out _) rfl rfl (by simp; omega) (by simp) ?_); intro A1 k1 c1 w1 hown1 hg1 hat1)
      all_goals
        go_ret3
        have ha := hg.out
        rw [← ha]
        exact ⟨A1, k1, c1, rfl, by simpa using hown1, below_grown_own ((Below.refl _ _).alloc (Nat.le_refl _) _) (Ob.made _ _ w.heap.size (by simp) (by simp)) hg1 (by simp)⟩

end Go.Proofs.YtlidbgidbpaenaaDoor

namespace Go.Proofs.YtlidbgidbpaenaaDoor
open Go Go.RowKit
set_option linter.unusedVariables false

/-- Block b is one of bytes, from B on. -/
def UbS (w : World) (B b : Nat) : Prop := B ≤ b ∧ ∃ cs fz, w.heap[b]? = some (.cells cs 5 fz)
/-- The slice value v reads as l, in blocks of bytes from B on. -/
def Ub (w : World) (B : Nat) (v : Value) (l : List UInt8) : Prop := Bs (UbS w B) w v l
theorem Ub.of_own {w : World} {B : Nat} {v : Value} {l : List UInt8} (h : Ob 5 w B v l) : Ub w B v l := by
  have hs := h.bs
  rcases h.2 with ⟨rfl, hn⟩ | ⟨g, cap, cur, rfl, hB, hh, _⟩
  · obtain ⟨h1, A, c, h2, h3, h4, h5, h6⟩ := hs
    exact ⟨h1, A, c, h2, h3, h4, h5, fun hl => by omega⟩
  · obtain ⟨h1, A, c, h2, h3, h4, h5, h6⟩ := hs
    refine ⟨h1, A, c, h2, h3, h4, h5, fun hl => ?_⟩
    obtain ⟨b, o, hA, _, hc⟩ := h6 hl
    injection h2 with hA2
    rw [hA] at hA2
    injection hA2 with hA2
    injection hA2 with hb
    subst hb
    exact ⟨g, o, hA, ⟨hB, _, _, hh⟩, hc⟩
theorem Ub.bs {w : World} {B : Nat} {v : Value} {l : List UInt8} (h : Ub w B v l) : Bs (fun _ => True) w v l := Sl.more h fun _ _ => trivial
theorem Ub.len {w : World} {B : Nat} {A : Option Addr} {k c : Nat} {l : List UInt8} (h : Ub w B (.slice A k c) l) : k = l.length := by
  obtain ⟨_, A', c', hv, _⟩ := h
  injection hv
theorem Ub.keep {w w' : World} {B : Nat} {v : Value} {l : List UInt8} (h : Ub w B v l) (hk : ∀ b, UbS w B b → w'.heap[b]? = w.heap[b]?) : Ub w' B v l := by
  obtain ⟨h1, A, c, h2, h3, h4, h5, h6⟩ := h
  refine ⟨h1, A, c, h2, h3, h4, h5, fun hl => ?_⟩
  obtain ⟨b, o, hA, hs, hc⟩ := h6 hl
  have hb := hk b hs
  obtain ⟨hB, cs, fz, hh⟩ := hs
  refine ⟨b, o, hA, ⟨hB, cs, fz, hb.trans hh⟩, fun j u hu => ?_⟩
  rw [World.cell?_of_block (a := ⟨b, o + j, none⟩) hb]
  exact hc j u hu
theorem Ub.later {w w' : World} {B : Nat} {v : Value} {l : List UInt8} (h : Ub w B v l) (hb : Below w.heap.size w w') : Ub w' B v l :=
  h.keep fun b ⟨_, cs, fz, hh⟩ => hb.block b (lt_of_block hh)
theorem Ub.lower {w : World} {B B' : Nat} {v : Value} {l : List UInt8} (h : Ub w B v l) (hB : B' ≤ B) : Ub w B' v l := Sl.more h fun b ⟨h1, h2⟩ => ⟨Nat.le_trans hB h1, h2⟩
/-- A block of another type is written, and new ones made. -/
theorem Ub.beside {w w' : World} {B : Nat} {v : Value} {l : List UInt8} (h : Ub w B v l) {g : Nat} {t : TypeId} {cs : Array Value} (hb : Blk w g t cs) (hne : 5 ≠ t) (hg : w.grownBy w' (some g)) : Ub w' B v l :=
  h.keep fun b ⟨_, cs', fz, hh⟩ => hg.block b (lt_of_block hh) (fun e => by
    injection e with e
    subst e
    unfold Blk at hb
    rw [hh] at hb
    injection hb with hb
    injection hb with _ hb
    exact hne hb)
end Go.Proofs.YtlidbgidbpaenaaDoor

namespace Go.Proofs.YtlidbgidbpaenaaDoor
open Go Go.RowKit
set_option linter.unusedVariables false

/-- A reader: what hasn't been taken yet, what went wrong first. -/
def Rd (w : World) (g B : Nat) (l : List UInt8) (err : Nat) : Prop := ∃ A k c, Blk w g 99 #[.slice A k c, .int .i64 (err : Int)] ∧ Ub w B (.slice A k c) l
theorem Rd.later {w w' : World} {g B : Nat} {l : List UInt8} {err : Nat} (h : Rd w g B l err) (hb : Below w.heap.size w w') : Rd w' g B l err := by
  obtain ⟨A, k, c, h1, h2⟩ := h
  exact ⟨A, k, c, h1.later hb, h2.later hb⟩
theorem Rd.lower {w : World} {g B B' : Nat} {l : List UInt8} {err : Nat} (h : Rd w g B l err) (hB : B' ≤ B) : Rd w g B' l err := by
  obtain ⟨A, k, c, h1, h2⟩ := h
  exact ⟨A, k, c, h1, h2.lower hB⟩
theorem Rd.lt {w : World} {g B : Nat} {l : List UInt8} {err : Nat} (h : Rd w g B l err) : g < w.heap.size := by
  obtain ⟨A, k, c, h1, h2⟩ := h
  exact h1.lt
/-- A block of another type is written. -/
theorem Rd.far {w : World} {g B : Nat} {l : List UInt8} {err : Nat} (h : Rd w g B l err) {g' : Nat} {t : TypeId} {cs : Array Value} (hb : Blk w g' t cs) (h1 : t ≠ 99) (h2 : 5 ≠ t) (i : Nat) (u : Value) : Rd (w.setCell ⟨g', i, none⟩ u) g B l err := by
  obtain ⟨A, k, c, h3, h4⟩ := h
  exact ⟨A, k, c, h3.far (p := ⟨g', i, none⟩) (fun e => Blk.ne h3 hb (fun h => h1 h.symm) e) _, h4.beside hb h2 (grown_put _ _ _ _)⟩

set_option maxHeartbeats 1000000 in
theorem read_any (S : Nat → Prop) (v0 : Value) (l : List UInt8) (w : World) (hl : l.length ≤ 1099511627776) (hr : Bs S w v0 l) :
    Calls Tryd.prog 45 #[v0] w fun e w' => ∃ g, e = .returned (.pointer (some ⟨g, 0, none⟩)) ∧ w.heap.size ≤ g ∧ Rd w' g w.heap.size l 0 ∧ Below w.heap.size w w' := by
  have HR := Lib.hid hr
  obtain ⟨A, c, rfl, hlc, hcm, hA0, hA⟩ := hr.at
  clear hA hr hA0
  go_enter Tryd.func45, Tryd.ntmps45
  go_wp2_with (at_builtin; (refine wpList_append_bs _ rfl (.tmp 3) (.tmp 4) elemU8 rfl (Ob.made _ _ w.heap.size (Nat.le_refl _) (by simp)) (Sl.alloc1 HR.out _) rfl rfl (by simp; omega) (by simp) ?_); intro A1 k1 c1 w1 hown1 hg1 hat1)
  have hbl1 : Below w.heap.size w w1 := below_grown_own ((Below.refl _ _).alloc (Nat.le_refl _) _) (Ob.made _ _ w.heap.size (Nat.le_refl _) (by simp)) hg1 (by simp)
  have hs1 := hbl1.size
  go_ret
  refine ⟨w1.heap.size, rfl, hs1, ⟨A1, k1, c1, Blk.new _ _ _, ?_⟩, hbl1.alloc hs1 _⟩
  exact (Ub.of_own (by simpa using hown1)).later ((Below.refl _ _).alloc (Nat.le_refl _) _)

set_option maxHeartbeats 400000 in
theorem fail_any (g B : Nat) (l : List UInt8) (err e0 : Nat) (w : World) (hr : Rd w g B l err) (he : e0 ≤ 1000) (he2 : err ≤ 1000) :
    Calls Tryd.prog 68 #[.pointer (some ⟨g, 0, none⟩), .int .i64 e0] w fun e w' => e = .returned (.bool false) ∧ Rd w' g B l (if err = 0 then e0 else err) ∧ w.grownBy w' (some g) := by
  have HR := Lib.hid hr
  obtain ⟨A, k, c, hb, hown⟩ := hr
  have d1 : w.cell? ⟨g, 1, none⟩ = some (.int .i64 (err : Int)) := hb.cell 1
  have f1 := hb.free 1
  by_cases h0 : err = 0
  · subst h0
    go_enter Tryd.func68, Tryd.ntmps68
    go_wp2_with fail
    go_ret
    exact ⟨rfl, ⟨A, k, c, hb.put 1 _, hown.beside hb (by decide) (grown_put _ _ _ _)⟩, grown_put _ _ _ _⟩
  · have t0 : ((err : Int) == 0) = false := by rw [beq_eq_false_iff_ne]; omega
    go_enter Tryd.func68, Tryd.ntmps68
    go_wp2_with fail
    go_ret
    exact ⟨rfl, HR.out, World.grownBy.refl _ _⟩

def rdErr (e : Nat) : Nat := if e = 10 then 30 else e
theorem getV_errs : ∀ (l : List UInt8) (i v er : Nat), getV i v l = .error er → er = 10 ∨ er = 12
  | [], i, v, er, h => by rw [getV] at h; cases h; exact .inl rfl
  | b :: l, i, v, er, h => by
    rw [getV] at h
    split at h
    · cases h; exact .inr rfl
    · split at h
      · cases h
      · exact getV_errs l _ _ er h
set_option maxHeartbeats 1000000 in
set_option maxRecDepth 100000 in
theorem rtake_old (g B : Nat) (l : List UInt8) (err : Nat) (w : World) (hr : Rd w g B l err) (h0 : err ≠ 0) :
    Calls Tryd.prog 67 #[.pointer (some ⟨g, 0, none⟩)] w fun e w' => e = .returned (.tuple #[.int .u64 0, .slice none 0 0, .bool false]) ∧ w = w' := by
  obtain ⟨A, k, c, hb, hown⟩ := hr
  have d1 : w.cell? ⟨g, 1, none⟩ = some (.int .i64 (err : Int)) := hb.cell 1
  have t0 : ((err : Int) != 0) = true := by rw [bne_iff_ne]; omega
  clear hb hown
  go_enter Tryd.func67, Tryd.ntmps67
  go_wp2_with fail
  go_ret3
  exact ⟨rfl, rfl⟩
set_option maxHeartbeats 1000000 in
set_option maxRecDepth 100000 in
theorem rtake_ok (g B : Nat) (l : List UInt8) (x n : Nat) (w : World) (hr : Rd w g B l 0) (hl : l.length ≤ 1099511627776) (hg : getVarB l = .ok (x, n)) :
    Calls Tryd.prog 67 #[.pointer (some ⟨g, 0, none⟩)] w fun e w' => ∃ A k c, e = .returned (.tuple #[.int .u64 x, .slice A k c, .bool true]) ∧ Ob 5 w' w.heap.size (.slice A k c) (l.drop n) ∧ Below w.heap.size w w' := by
  obtain ⟨A, k, c, hb, hown⟩ := hr
  have d0 : w.cell? ⟨g, 0, none⟩ = some (.slice A k c) := hb.cell 0
  have d1 : w.cell? ⟨g, 1, none⟩ = some (.int .i64 0) := hb.cell 1
  have HO := Lib.hid hown
  clear hb hown
  go_enter Tryd.func67, Tryd.ntmps67
  go_wp2_with fail
  refine (getVar_any _ _ l w hl HO.out.bs).mono ?_
  rintro e w1 ⟨hok, _⟩
  obtain ⟨A1, k1, c1, rfl, hown1, hbl1⟩ := hok x n hg
  clear hok
  go_wp2_with fail
  go_ret3
  exact ⟨A1, k1, c1, rfl, hown1, hbl1⟩
set_option maxHeartbeats 1000000 in
set_option maxRecDepth 100000 in
theorem rtake_err (g B : Nat) (l : List UInt8) (er : Nat) (w : World) (hr : Rd w g B l 0) (hl : l.length ≤ 1099511627776) (hg : getVarB l = .error er) :
    Calls Tryd.prog 67 #[.pointer (some ⟨g, 0, none⟩)] w fun e w' => e = .returned (.tuple #[.int .u64 0, .slice none 0 0, .bool false]) ∧ Rd w' g B l (rdErr er) ∧ w.grownBy w' (some g) := by
  have HR := Lib.hid hr
  obtain ⟨A, k, c, hb, hown⟩ := hr
  have d0 : w.cell? ⟨g, 0, none⟩ = some (.slice A k c) := hb.cell 0
  have d1 : w.cell? ⟨g, 1, none⟩ = some (.int .i64 0) := hb.cell 1
  have HO := Lib.hid hown
  have hcase := getV_errs l 0 0 er hg
  clear hb hown
  rcases hcase with rfl | rfl
  · go_enter Tryd.func67, Tryd.ntmps67
    go_wp2_with fail
    refine (getVar_any _ _ l w hl HO.out.bs).mono ?_
    rintro e w1 ⟨_, herr⟩
    obtain ⟨rfl, hbl1⟩ := herr _ hg
    have HR1 := Lib.hid (HR.out.later hbl1)
    clear herr
    go_wp2_with fail
    refine (fail_any g B l 0 30 w1 HR1.out (by omega) (by omega)).mono ?_
    rintro e w2 ⟨rfl, hr2, hg2⟩
    go_wp2_with fail
    go_ret3
    exact ⟨rfl, hr2, (below_grownBy hbl1 _).trans hg2⟩
  · go_enter Tryd.func67, Tryd.ntmps67
    go_wp2_with fail
    refine (getVar_any _ _ l w hl HO.out.bs).mono ?_
    rintro e w1 ⟨_, herr⟩
    obtain ⟨rfl, hbl1⟩ := herr _ hg
    have HR1 := Lib.hid (HR.out.later hbl1)
    clear herr
    go_wp2_with fail
    refine (fail_any g B l 0 12 w1 HR1.out (by omega) (by omega)).mono ?_
    rintro e w2 ⟨rfl, hr2, hg2⟩
    go_wp2_with fail
    go_ret3
    exact ⟨rfl, hr2, (below_grownBy hbl1 _).trans hg2⟩

/-- What Count takes: the number, the rest, what went wrong. -/
def rdCount (l : List UInt8) (err : Nat) (most : Int) : Nat × List UInt8 × Nat :=
  if err ≠ 0 then (0, l, err) else match getVarB l with
    | .error er => (0, l, rdErr er)
    | .ok (x, n) => if most < (x : Int) then (0, l, 32) else (x, l.drop n, 0)
theorem rdErr_le {l : List UInt8} {er : Nat} (h : getVarB l = .error er) : rdErr er ≤ 1000 ∧ rdErr er ≠ 0 := by
  rcases getV_errs l 0 0 er h with rfl | rfl <;> decide

/-- The function value 'r.take'. -/
def takeFn (g : Nat) : Value := .func (Fn.func 67) #[.pointer (some ⟨g, 0, none⟩)] #[]
set_option maxHeartbeats 1000000 in
set_option maxRecDepth 100000 in
theorem below_ok (g B : Nat) (l : List UInt8) (x n : Nat) (most : Int) (w : World) (hr : Rd w g B l 0) (hl : l.length ≤ 1099511627776) (hg : getVarB l = .ok (x, n)) (hm : most ≤ 9223372036854775807) (hx : (x : Int) ≤ most) :
    Calls Tryd.prog 66 #[.pointer (some ⟨g, 0, none⟩), takeFn g, .int .i64 most] w fun e w' => ∃ A k c, e = .returned (.tuple #[.int .i64 x, .slice A k c, .bool true]) ∧ Ob 5 w' w.heap.size (.slice A k c) (l.drop n) ∧ Below w.heap.size w w' := by
  obtain ⟨m, rfl⟩ : ∃ m : Nat, most = (m : Int) := ⟨most.toNat, by omega⟩
  have hxm : x ≤ m := by omega
  unfold takeFn
  have HT := Lib.hid (rtake_ok g B l x n w hr hl hg)
  clear hr hg
  go_enter Tryd.func66, Tryd.ntmps66
  go_wp2_with fail
  refine HT.out.mono ?_
  rintro e w1 ⟨A1, k1, c1, rfl, hown1, hbl1⟩
  have t0 : decide (m < x) = false := by rw [decide_eq_false_iff_not]; omega
  go_wp2_with fail
  go_ret3
  exact ⟨A1, k1, c1, rfl, hown1, hbl1⟩
set_option maxHeartbeats 1000000 in
set_option maxRecDepth 100000 in
theorem below_big (g B : Nat) (l : List UInt8) (x n : Nat) (most : Int) (w : World) (hr : Rd w g B l 0) (hl : l.length ≤ 1099511627776) (hg : getVarB l = .ok (x, n)) (hm : most ≤ 9223372036854775807) (hm2 : -9223372036854775808 ≤ most) (hx : most < (x : Int)) :
    Calls Tryd.prog 66 #[.pointer (some ⟨g, 0, none⟩), takeFn g, .int .i64 most] w fun e w' => e = .returned (.tuple #[.int .i64 0, .slice none 0 0, .bool false]) ∧ Rd w' g B l 32 ∧ w.grownBy w' (some g) := by
  unfold takeFn
  have HT := Lib.hid (rtake_ok g B l x n w hr hl hg)
  have HR := Lib.hid hr
  have hx64 := (getVarB_bound hg).1
  clear hr hg
  by_cases h0 : most < 0
  · go_enter Tryd.func66, Tryd.ntmps66
    go_wp2_with fail
    refine HT.out.mono ?_
    rintro e w1 ⟨A1, k1, c1, rfl, hown1, hbl1⟩
    have HR1 := Lib.hid (HR.out.later hbl1)
    go_wp2_with fail
    refine (fail_any g B l 0 32 w1 HR1.out (by omega) (by omega)).mono ?_
    rintro e w2 ⟨rfl, hr2, hg2⟩
    go_wp2_with fail
    go_ret3
    exact ⟨rfl, hr2, (below_grownBy hbl1 _).trans hg2⟩
  · obtain ⟨m, rfl⟩ : ∃ m : Nat, most = (m : Int) := ⟨most.toNat, by omega⟩
    have hxm : m < x := by omega
    go_enter Tryd.func66, Tryd.ntmps66
    go_wp2_with fail
    refine HT.out.mono ?_
    rintro e w1 ⟨A1, k1, c1, rfl, hown1, hbl1⟩
    have t0 : decide (m < x) = true := by rw [decide_eq_true_eq]; omega
    have HR1 := Lib.hid (HR.out.later hbl1)
    go_wp2_with fail
    refine (fail_any g B l 0 32 w1 HR1.out (by omega) (by omega)).mono ?_
    rintro e w2 ⟨rfl, hr2, hg2⟩
    go_wp2_with fail
    go_ret3
    exact ⟨rfl, hr2, (below_grownBy hbl1 _).trans hg2⟩
set_option maxHeartbeats 1000000 in
set_option maxRecDepth 100000 in
theorem below_no (g B : Nat) (l : List UInt8) (most : Int) (w : World) (err err' : Nat)
    (ht : Calls Tryd.prog 67 #[.pointer (some ⟨g, 0, none⟩)] w fun e w' => e = .returned (.tuple #[.int .u64 0, .slice none 0 0, .bool false]) ∧ Rd w' g B l err' ∧ w.grownBy w' (some g)) :
    Calls Tryd.prog 66 #[.pointer (some ⟨g, 0, none⟩), takeFn g, .int .i64 most] w fun e w' => e = .returned (.tuple #[.int .i64 0, .slice none 0 0, .bool false]) ∧ Rd w' g B l err' ∧ w.grownBy w' (some g) := by
  unfold takeFn
  have HT := Lib.hid ht
  clear ht
  go_enter Tryd.func66, Tryd.ntmps66
  go_wp2_with fail
  refine HT.out.mono ?_
  rintro e w1 ⟨rfl, hr1, hg1⟩
  go_wp2_with fail
  go_ret3
  exact ⟨rfl, hr1, hg1⟩

set_option maxHeartbeats 1000000 in
set_option maxRecDepth 100000 in
theorem count_any (g B : Nat) (l : List UInt8) (err : Nat) (most : Int) (w : World) (hr : Rd w g B l err) (hB : B ≤ w.heap.size) (hl : l.length ≤ 1099511627776) (hm : most ≤ 9223372036854775807) (hm2 : -9223372036854775808 ≤ most) :
    Calls Tryd.prog 48 #[.pointer (some ⟨g, 0, none⟩), .int .i64 most] w fun e w' => e = .returned (.int .i64 ((rdCount l err most).1 : Int)) ∧ Rd w' g B (rdCount l err most).2.1 (rdCount l err most).2.2 ∧ w.grownBy w' (some g) := by
  have hmf := run_makeFunc Tryd.prog
  have no : ∀ err', rdCount l err most = (0, l, err') → (Calls Tryd.prog 66 #[.pointer (some ⟨g, 0, none⟩), takeFn g, .int .i64 most] w fun e w' => e = .returned (.tuple #[.int .i64 0, .slice none 0 0, .bool false]) ∧ Rd w' g B l err' ∧ w.grownBy w' (some g)) →
      Calls Tryd.prog 48 #[.pointer (some ⟨g, 0, none⟩), .int .i64 most] w fun e w' => e = .returned (.int .i64 ((rdCount l err most).1 : Int)) ∧ Rd w' g B (rdCount l err most).2.1 (rdCount l err most).2.2 ∧ w.grownBy w' (some g) := by
    intro err' hrc hb
    have HRC := Lib.hid hrc
    have HBL := Lib.hid hb
    clear hrc hb
    go_enter Tryd.func48, Tryd.ntmps48
    go_wp2_with fail
    refine HBL.out.mono ?_
    rintro e w1 ⟨rfl, hr1, hg1⟩
    go_wp2_with fail
    go_ret
    rw [HRC.out]
    exact ⟨rfl, hr1, hg1⟩
  by_cases h0 : err = 0
  · subst h0
    cases hgv : getVarB l with
    | error er =>
      refine no (rdErr er) (by unfold rdCount; rw [if_neg (by simp), hgv]) ?_
      exact below_no g B l most w 0 _ (rtake_err g B l er w hr hl hgv)
    | ok xn =>
      obtain ⟨x, n⟩ := xn
      by_cases hx : most < (x : Int)
      · refine no 32 (by unfold rdCount; rw [if_neg (by simp), hgv]; simp only; rw [if_pos hx]) ?_
        exact below_big g B l x n most w hr hl hgv hm hm2 hx
      · have HRC : Hid (rdCount l 0 most = (x, l.drop n, 0)) := by unfold rdCount; rw [if_neg (by simp), hgv]; simp only; rw [if_neg hx]; rfl
        have HBL := Lib.hid (below_ok g B l x n most w hr hl hgv hm (by omega))
        have HR := Lib.hid hr
        clear no hr
        go_enter Tryd.func48, Tryd.ntmps48
        go_wp2_with fail
        refine HBL.out.mono ?_
        rintro e w1 ⟨A1, k1, c1, rfl, hown1, hbl1⟩
        obtain ⟨A, k, c, hb1, _⟩ := HR.out.later hbl1
        have d0 : w1.cell? ⟨g, 0, none⟩ = some (.slice A k c) := hb1.cell 0
        have f0 := hb1.free 0
        go_wp2_with fail
        go_ret
        rw [HRC.out]
        exact ⟨rfl, ⟨A1, k1, c1, hb1.put 0 _, (Ub.of_own (hown1.lower hB)).beside hb1 (by decide) (grown_put _ _ _ _)⟩, (below_grownBy hbl1 _).trans (grown_put _ _ _ _)⟩
  · refine no err (by unfold rdCount; rw [if_pos h0]) ?_
    refine below_no g B l most w err err ((rtake_old g B l err w hr h0).mono ?_)
    rintro e w1 ⟨rfl, rfl⟩
    exact ⟨rfl, hr, World.grownBy.refl _ _⟩

/-- What End says. -/
def rdEnd (l : List UInt8) (err : Nat) : Nat := if err = 0 ∧ 0 < l.length then 31 else err
set_option maxHeartbeats 400000 in
theorem end_rd (g B : Nat) (l : List UInt8) (err : Nat) (w : World) (hr : Rd w g B l err) (hl : l.length ≤ 1099511627776) :
    Calls Tryd.prog 49 #[.pointer (some ⟨g, 0, none⟩)] w fun e w' => e = .returned (.int .i64 (rdEnd l err : Int)) ∧ w = w' := by
  obtain ⟨A, k, c, hb, hown⟩ := hr
  have d0 : w.cell? ⟨g, 0, none⟩ = some (.slice A k c) := hb.cell 0
  have d1 : w.cell? ⟨g, 1, none⟩ = some (.int .i64 (err : Int)) := hb.cell 1
  obtain rfl := hown.len
  clear hb hown
  by_cases h0 : err = 0
  · subst h0
    by_cases hz : 0 < l.length
    · have HE : Hid (rdEnd l 0 = 31) := by unfold rdEnd; rw [if_pos ⟨rfl, hz⟩]; rfl
      go_enter Tryd.func49, Tryd.ntmps49
      go_wp2_with fail
      go_ret
      rw [HE.out]
      exact ⟨rfl, rfl⟩
    · have HE : Hid (rdEnd l 0 = 0) := by unfold rdEnd; rw [if_neg (fun h => hz h.2)]; rfl
      go_enter Tryd.func49, Tryd.ntmps49
      go_wp2_with fail
      go_ret
      rw [HE.out]
      exact ⟨rfl, rfl⟩
  · have HE : Hid (rdEnd l err = err) := by unfold rdEnd; rw [if_neg (fun h => h0 h.1)]; rfl
    have t0 : ((err : Int) == 0) = false := by rw [beq_eq_false_iff_ne]; omega
    clear h0
    go_enter Tryd.func49, Tryd.ntmps49
    go_wp2_with fail
    go_ret
    rw [HE.out]
    exact ⟨rfl, rfl⟩
end Go.Proofs.YtlidbgidbpaenaaDoor

namespace Go.Proofs.YtlidbgidbpaenaaDoor
open Go
set_option linter.unusedVariables false

def rdErrP (e : Nat) : Nat := if e = 10 then 30 else e
/-- Reader.Num, Reader.Text: what is taken, what is left, the fault. -/
def rdNum (l : List UInt8) (err : Nat) : Nat × List UInt8 × Nat :=
  if err ≠ 0 then (0, l, err) else match getVarB l with
    | .error er => (0, l, rdErrP er)
    | .ok (x, n) => (x, l.drop n, 0)
def rdText (l : List UInt8) (err : Nat) : List UInt8 × List UInt8 × Nat :=
  if err ≠ 0 then ([], l, err) else match getVarB l with
    | .error er => ([], l, rdErrP er)
    | .ok (x, n) => if 65536 < x then ([], l, 32) else if (l.drop n).length < x then ([], l, 30) else ((l.drop n).take x, (l.drop n).drop x, 0)
theorem rdNum_put {x : Nat} (hx : x < U64) (s : List UInt8) : rdNum (varB x ++ s) 0 = (x, s, 0) := by
  unfold rdNum
  rw [if_neg (by simp), getVarB_varB hx]
  simp
theorem rdText_put {t : List UInt8} (ht : t.length ≤ 65536) (s : List UInt8) : rdText (varB t.length ++ (t ++ s)) 0 = (t, s, 0) := by
  unfold rdText
  rw [if_neg (by simp), getVarB_varB (by unfold U64; omega)]
  simp only [List.drop_left]
  rw [if_neg (by omega), if_neg (by simp)]
  simp

/-- A record's fields; its bytes. -/
def recF (q : Nat) (t : List UInt8) : List UInt8 := varB q ++ (varB t.length ++ t)
def recS (q : Nat) (t : List UInt8) : List UInt8 := recF q t ++ beB (sumOf (recF q t)).toNat 4
def recB (q : Nat) (t : List UInt8) : List UInt8 := beB (recS q t).length 4 ++ recS q t
/-- The record that stands first, and how many bytes it has. -/
def recGet (l : List UInt8) : Option ((Nat × List UInt8) × Nat) :=
  if l.length < 4 ∨ (l.drop 4).length < deB (l.take 4) then none
  else match openB ((l.drop 4).take (deB (l.take 4))) with
    | .error _ => none
    | .ok f =>
      if (rdText (rdNum f 0).2.1 (rdNum f 0).2.2).2.2 = 0 ∧ (rdText (rdNum f 0).2.1 (rdNum f 0).2.2).2.1 = [] ∧ (rdText (rdNum f 0).2.1 (rdNum f 0).2.2).1.length ≤ 32768
      then some (((rdNum f 0).1, (rdText (rdNum f 0).2.1 (rdNum f 0).2.2).1), 4 + deB (l.take 4)) else none
theorem recF_len {q : Nat} {t : List UInt8} (hq : q < U64) (ht : t.length ≤ 32768) : (recF q t).length ≤ 32800 := by
  unfold recF
  have h1 := varB_le 9 q (Nat.lt_of_lt_of_le hq (by unfold U64; decide))
  have h2 := varB_le 9 t.length (Nat.lt_of_le_of_lt ht (by decide))
  rw [List.length_append, List.length_append]
  omega
theorem recS_len (q : Nat) (t : List UInt8) : (recS q t).length = (recF q t).length + 4 := by
  unfold recS; rw [List.length_append, beB_length]
theorem recB_len (q : Nat) (t : List UInt8) : (recB q t).length = 4 + ((recF q t).length + 4) := by
  unfold recB; rw [List.length_append, beB_length, recS_len]
theorem recB_head {q : Nat} {t : List UInt8} (hq : q < U64) (ht : t.length ≤ 32768) (s : List UInt8) : (recB q t ++ s).take 4 = beB (recS q t).length 4 ∧ (recB q t ++ s).drop 4 = recS q t ++ s ∧ deB (beB (recS q t).length 4) = (recS q t).length := by
  have h4 : (beB (recS q t).length 4).length = 4 := beB_length _ _
  refine ⟨?_, ?_, ?_⟩
  · unfold recB
    rw [List.append_assoc, List.take_append_of_le_length (by omega), List.take_of_length_le (by omega)]
  · unfold recB
    rw [List.append_assoc, List.drop_append_of_le_length (by omega), List.drop_eq_nil_of_le (by omega), List.nil_append]
  · apply deB_beB
    have := recF_len hq ht
    rw [recS_len]
    exact Nat.lt_of_le_of_lt (by omega : _ ≤ 32804) (by decide)
theorem openB_recS (q : Nat) (t : List UInt8) : openB (recS q t) = .ok (recF q t) := by
  have h4 : (beB (sumOf (recF q t)).toNat 4).length = 4 := beB_length _ _
  have e : (recS q t).take ((recS q t).length - 4) = recF q t := by
    rw [recS_len, Nat.add_sub_cancel]
    unfold recS
    rw [List.take_left]
  unfold openB
  rw [if_neg (by rw [recS_len]; omega), e]
  exact if_pos rfl
theorem recGet_put {q : Nat} {t : List UInt8} (hq : q < U64) (ht : t.length ≤ 32768) (s : List UInt8) : recGet (recB q t ++ s) = some ((q, t), (recB q t).length) := by
  obtain ⟨h1, h2, h3⟩ := recB_head hq ht s
  have hl := recB_len q t
  have e1 : rdNum (recF q t) 0 = (q, varB t.length ++ (t ++ []), 0) := by unfold recF; rw [List.append_nil]; exact rdNum_put hq _
  have e2 := rdText_put (t := t) (by omega) []
  unfold recGet
  rw [h1, h2, h3, if_neg (by rw [List.length_append, List.length_append, hl]; omega), List.take_append_of_le_length (Nat.le_refl _), List.take_of_length_le (Nat.le_refl _), openB_recS]
  simp only [e1, e2]
  rw [if_pos ⟨trivial, trivial, ht⟩, hl, recS_len]
/-- Of a record that is cut off nothing is got. -/
theorem recGet_cut {q : Nat} {t : List UInt8} (hq : q < U64) (ht : t.length ≤ 32768) {k : Nat} (hk : k < (recB q t).length) : recGet ((recB q t).take k) = none := by
  obtain ⟨h1, h2, h3⟩ := recB_head hq ht []
  rw [List.append_nil] at h1 h2
  have hl := recB_len q t
  unfold recGet
  by_cases h4 : k < 4
  · rw [if_pos (.inl (by rw [List.length_take]; omega))]
  · refine if_pos (.inr ?_)
    rw [List.take_take, Nat.min_eq_left (by omega), h1, h3, List.length_drop, List.length_take, recS_len]
    omega
end Go.Proofs.YtlidbgidbpaenaaDoor

namespace Go.Proofs.YtlidbgidbpaenaaDoor
open Go Go.RowKit
set_option linter.unusedVariables false

theorem rdErrP_eq (e : Nat) : rdErrP e = rdErr e := rfl
theorem below_size {g B : Nat} {w w' : World} (h : w.grownBy w' (some g)) : w.heap.size ≤ w'.heap.size := h.size
set_option maxHeartbeats 1000000 in
set_option maxRecDepth 100000 in
theorem rtext_no (g B : Nat) (l : List UInt8) (w : World) (err' : Nat)
    (hb : Calls Tryd.prog 66 #[.pointer (some ⟨g, 0, none⟩), takeFn g, .int .i64 65536] w fun e w' => e = .returned (.tuple #[.int .i64 0, .slice none 0 0, .bool false]) ∧ Rd w' g B l err' ∧ w.grownBy w' (some g)) :
    Calls Tryd.prog 46 #[.pointer (some ⟨g, 0, none⟩)] w fun e w' => e = .returned (.string (st [])) ∧ Rd w' g B l err' ∧ w.grownBy w' (some g) := by
  have hmf := run_makeFunc Tryd.prog
  have HBL := Lib.hid hb
  clear hb
  go_enter Tryd.func46, Tryd.ntmps46
  go_wp2_with fail
  refine HBL.out.mono ?_
  rintro e w1 ⟨rfl, hr1, hg1⟩
  go_wp2_with fail
  go_ret
  exact ⟨rfl, hr1, hg1⟩
set_option maxHeartbeats 1000000 in
set_option maxRecDepth 100000 in
theorem rtext_short (g B : Nat) (l : List UInt8) (x n : Nat) (w : World) (hr : Rd w g B l 0) (hl : l.length ≤ 1099511627776) (hg : getVarB l = .ok (x, n)) (hx : x ≤ 65536) (hs : (l.drop n).length < x) :
    Calls Tryd.prog 46 #[.pointer (some ⟨g, 0, none⟩)] w fun e w' => e = .returned (.string (st [])) ∧ Rd w' g B l 30 ∧ w.grownBy w' (some g) := by
  have hmf := run_makeFunc Tryd.prog
  have HBL := Lib.hid (below_ok g B l x n 65536 w hr hl hg (by omega) (by omega))
  have HR := Lib.hid hr
  clear hr
  generalize l.drop n = m at *
  go_enter Tryd.func46, Tryd.ntmps46
  go_wp2_with fail
  refine HBL.out.mono ?_
  rintro e w1 ⟨A1, k1, c1, rfl, hown1, hbl1⟩
  obtain rfl := hown1.len
  have HR1 := Lib.hid (HR.out.later hbl1)
  have t0 : decide (m.length < x) = true := by rw [decide_eq_true_eq]; exact hs
  go_wp2_with fail
  refine (fail_any g B l 0 30 w1 HR1.out (by omega) (by omega)).mono ?_
  rintro e w2 ⟨rfl, hr2, hg2⟩
  go_wp2_with fail
  go_ret
  exact ⟨rfl, hr2, (below_grownBy hbl1 _).trans hg2⟩
set_option maxHeartbeats 1000000 in
set_option maxRecDepth 100000 in
theorem rtext_ok (g B : Nat) (l : List UInt8) (x n : Nat) (w : World) (hr : Rd w g B l 0) (hB : B ≤ w.heap.size) (hl : l.length ≤ 1099511627776) (hg : getVarB l = .ok (x, n)) (hx : x ≤ 65536) (hs : ¬ (l.drop n).length < x) :
    Calls Tryd.prog 46 #[.pointer (some ⟨g, 0, none⟩)] w fun e w' => e = .returned (.string (st ((l.drop n).take x))) ∧ Rd w' g B ((l.drop n).drop x) 0 ∧ w.grownBy w' (some g) := by
  have hmf := run_makeFunc Tryd.prog
  have HBL := Lib.hid (below_ok g B l x n 65536 w hr hl hg (by omega) (by omega))
  have HR := Lib.hid hr
  have hll : (l.drop n).length ≤ 1099511627776 := by rw [List.length_drop]; omega
  clear hr
  generalize l.drop n = m at *
  go_enter Tryd.func46, Tryd.ntmps46
  go_wp2_with fail
  refine HBL.out.mono ?_
  rintro e w1 ⟨A1, k1, c1, rfl, hown1, hbl1⟩
  obtain rfl := hown1.len
  obtain ⟨A, k, c, hb1, _⟩ := HR.out.later hbl1
  have d0 : w1.cell? ⟨g, 0, none⟩ = some (.slice A k c) := hb1.cell 0
  have f0 := hb1.free 0
  have HB1 := Lib.hid hb1
  have t0 : decide (m.length < x) = false := by rw [decide_eq_false_iff_not]; exact hs
  have hxm : x ≤ m.length := by omega
  clear hs hb1
  rcases hown1.2 with ⟨hv, hn⟩ | ⟨g1, cap, cur, hv, _, _, hnc, hcm, _⟩
  · injection hv with hA _ hc
    subst hA hc
    obtain rfl : m = [] := List.eq_nil_of_length_eq_zero hn
    obtain rfl : x = 0 := by simpa using hxm
    have cv := run_string_of_bs (P := Tryd.prog) (Bs.nilv (fun _ => True) (w1.setCell ⟨g, 0, none⟩ (.slice none 0 0))) tB tU tS
    clear hown1
    go_wp2_with fail
    go_ret
    exact ⟨rfl, ⟨none, 0, 0, HB1.out.put 0 _, Bs.nilv _ _⟩, (below_grownBy hbl1 _).trans (grown_put _ _ _ _)⟩
  · injection hv with hA _ hc
    subst hA hc
    have hu := (Ub.of_own (hown1.lower hB)).beside HB1.out (by decide) (grown_put w1 g 0 (.slice (if c1 = x then some ⟨g1, 0, none⟩ else some ⟨g1, 0 + x, none⟩) (m.length - x) (c1 - x)))
    have cv := run_string_of_bs (P := Tryd.prog) (Bs.pre hu.bs hxm) tB tU tS
    have hcut : Hid (Ub (w1.setCell ⟨g, 0, none⟩ (.slice (if c1 = x then some ⟨g1, 0, none⟩ else some ⟨g1, 0 + x, none⟩) (m.length - x) (c1 - x))) B _ _) := Bs.cut hu hxm
    clear hown1 hu
    by_cases hcx : c1 = x
    · rw [if_pos hcx] at cv hcut
      subst hcx
      rw [Nat.sub_self, show m.length - c1 = 0 by omega] at cv hcut
      go_wp2_with fail
      go_ret
      exact ⟨rfl, ⟨_, _, _, HB1.out.put 0 _, hcut⟩, (below_grownBy hbl1 _).trans (grown_put _ _ _ _)⟩
    · rw [if_neg hcx, Nat.zero_add] at cv hcut
      go_wp2_with fail
      go_ret
      exact ⟨rfl, ⟨_, _, _, HB1.out.put 0 _, hcut⟩, (below_grownBy hbl1 _).trans (grown_put _ _ _ _)⟩

set_option maxHeartbeats 1000000 in
theorem rtext_any (g B : Nat) (l : List UInt8) (err : Nat) (w : World) (hr : Rd w g B l err) (hB : B ≤ w.heap.size) (hl : l.length ≤ 1099511627776) :
    Calls Tryd.prog 46 #[.pointer (some ⟨g, 0, none⟩)] w fun e w' => e = .returned (.string (st (rdText l err).1)) ∧ Rd w' g B (rdText l err).2.1 (rdText l err).2.2 ∧ w.grownBy w' (some g) := by
  by_cases h0 : err = 0
  · subst h0
    cases hgv : getVarB l with
    | error er =>
      have e : rdText l 0 = ([], l, rdErr er) := by unfold rdText; rw [if_neg (by simp), hgv]; rfl
      rw [e]
      exact rtext_no g B l w _ (below_no g B l 65536 w 0 _ (rtake_err g B l er w hr hl hgv))
    | ok xn =>
      obtain ⟨x, n⟩ := xn
      by_cases hx : 65536 < x
      · have e : rdText l 0 = ([], l, 32) := by unfold rdText; rw [if_neg (by simp), hgv]; simp only; rw [if_pos hx]
        rw [e]
        exact rtext_no g B l w _ (below_big g B l x n 65536 w hr hl hgv (by omega) (by omega) (by omega))
      · by_cases hs : (l.drop n).length < x
        · have e : rdText l 0 = ([], l, 30) := by unfold rdText; rw [if_neg (by simp), hgv]; simp only; rw [if_neg hx, if_pos hs]
          rw [e]
          exact rtext_short g B l x n w hr hl hgv (by omega) hs
        · have e : rdText l 0 = ((l.drop n).take x, (l.drop n).drop x, 0) := by unfold rdText; rw [if_neg (by simp), hgv]; simp only; rw [if_neg hx, if_neg hs]
          rw [e]
          exact rtext_ok g B l x n w hr hB hl hgv (by omega) hs
  · have e : rdText l err = ([], l, err) := by unfold rdText; rw [if_pos h0]
    rw [e]
    refine rtext_no g B l w _ (below_no g B l 65536 w err err ((rtake_old g B l err w hr h0).mono ?_))
    rintro e w1 ⟨rfl, rfl⟩
    exact ⟨rfl, hr, World.grownBy.refl _ _⟩
end Go.Proofs.YtlidbgidbpaenaaDoor

namespace Go.Proofs.YtlidbgidbpaenaaDoor
open Go Go.RowKit
set_option linter.unusedVariables false

/-- Reader.Flag: what is taken, what is left, the fault. -/
def rdFlag (l : List UInt8) (err : Nat) : Bool × List UInt8 × Nat :=
  if err ≠ 0 then (false, l, err) else match l with
    | [] => (false, [], 30)
    | b :: r => if 1 < b.toNat then (false, b :: r, 33) else (b.toNat == 1, r, 0)

set_option maxHeartbeats 400000 in
theorem rbad_any (g B gb : Nat) (l : List UInt8) (e0 : Nat) (w : World) (hr : Rd w g B l 0) (he : e0 ≤ 1000) (hb : Blk w gb 68 #[.pointer (some ⟨g, 0, none⟩)]) :
    Calls Tryd.prog 69 #[.int .i64 e0, .pointer (some ⟨gb, 0, none⟩)] w fun e w' => e = .returned (.bool false) ∧ Rd w' g B l e0 ∧ w.grownBy w' (some g) := by
  have c0 : w.cell? ⟨gb, 0, none⟩ = some (.pointer (some ⟨g, 0, none⟩)) := hb.cell 0
  have HC := Lib.hid (fail_any g B l 0 e0 w hr he (by omega))
  clear hb hr
  go_enter Tryd.func69, Tryd.ntmps69
  go_wp2_with fail
  refine HC.out.mono ?_
  rintro e w1 ⟨rfl, hr1, hg1⟩
  go_wp2_with fail
  go_ret
  exact ⟨rfl, hr1, hg1⟩

theorem beq_nat_int (n : Nat) : (((n : Int)) == 1) = (n == 1) := by
  rw [Bool.eq_iff_iff, beq_iff_eq, beq_iff_eq]
  omega
theorem grown_drew {w w' : World} {row : Option Nat} (h : w.grownBy w' row) : w.grownBy w'.drew row := ⟨h.os, h.tape, h.output, h.size, h.block⟩
set_option maxHeartbeats 1000000 in
set_option maxRecDepth 100000 in
theorem rflag_any (g B : Nat) (l : List UInt8) (err : Nat) (w : World) (hr : Rd w g B l err) (hB : B ≤ w.heap.size) (hl : l.length ≤ 1099511627776) :
    Calls Tryd.prog 47 #[.pointer (some ⟨g, 0, none⟩)] w fun e w' => e = .returned (.bool (rdFlag l err).1) ∧ Rd w' g B (rdFlag l err).2.1 (rdFlag l err).2.2 ∧ w.grownBy w' (some g) := by
  have hmf := run_makeFunc Tryd.prog
  have hnb := Blk.new w 68 #[.pointer (some ⟨g, 0, none⟩)]
  have hgl := hr.lt
  have hrl := hr.later ((Below.refl _ _).alloc (Nat.le_refl _) (.cells #[.pointer (some ⟨g, 0, none⟩)] 68))
  have hgr : w.grownBy (w.alloc (.cells #[.pointer (some ⟨g, 0, none⟩)] 68)) (some g) := below_grownBy ((Below.refl _ _).alloc (Nat.le_refl _) _) _
  have p0 : (w.alloc (.cells #[.pointer (some ⟨g, 0, none⟩)] 68)).cell? ⟨w.heap.size, 0, none⟩ = some (.pointer (some ⟨g, 0, none⟩)) := hnb.cell 0
  obtain ⟨A, k, c, hb, hub⟩ := id hrl
  have d0 : (w.alloc (.cells #[.pointer (some ⟨g, 0, none⟩)] 68)).cell? ⟨g, 0, none⟩ = some (.slice A k c) := hb.cell 0
  have d1 : (w.alloc (.cells #[.pointer (some ⟨g, 0, none⟩)] 68)).cell? ⟨g, 1, none⟩ = some (.int .i64 (err : Int)) := hb.cell 1
  have f0 := hb.free 0
  have f1 := hb.free 1
  obtain rfl := hub.len
  have HU := Lib.hid hub
  have HBK := Lib.hid hb
  have HRL := Lib.hid hrl
  clear hr hub hb hrl
  by_cases h0 : err = 0
  · subst h0
    rcases l with _ | ⟨x, l⟩
    · have HV : Hid (rdFlag [] 0 = (false, [], 30)) := by unfold rdFlag; rw [Hid, if_neg (by simp)]
      have HC := Lib.hid (rbad_any g B w.heap.size [] 30 _ HRL.out (by omega) hnb)
      go_enter Tryd.func47, Tryd.ntmps47
      go_wp2_with fail
      refine HC.out.mono ?_
      rintro e w1 ⟨rfl, hr1, hg1⟩
      go_wp2_with fail
      go_ret
      rw [HV.out]
      exact ⟨rfl, hr1, hgr.trans hg1⟩
    · obtain ⟨A', c', hv, hlc, hcm, _, hcell⟩ := Bs.at HU.out
      injection hv with hA _ hc
      subst hA hc
      obtain ⟨b, o, rfl, hS, hcc⟩ := hcell (by simp)
      have cx : (w.alloc (.cells #[.pointer (some ⟨g, 0, none⟩)] 68)).cell? ⟨b, o, none⟩ = some (.int .u8 (x.toNat : Int)) := by
        have := hcc 0 (by simp)
        simpa using this
      have hlen : (x :: l).length = l.length + 1 := rfl
      have hxb := x.toNat_lt
      have HCUT : Hid (Ub (w.alloc (.cells #[.pointer (some ⟨g, 0, none⟩)] 68)) B _ _) := Bs.cut HU.out (show 1 ≤ (x :: l).length by simp)
      rw [hlen] at d0 hlc
      have HLEN := Lib.hid hlen
      clear hcell hcc hlen
      by_cases hx : 1 < x.toNat
      · have HV : Hid (rdFlag (x :: l) 0 = (false, x :: l, 33)) := by unfold rdFlag; rw [Hid, if_neg (by simp)]; simp only; rw [if_pos hx]
        have HC := Lib.hid (rbad_any g B w.heap.size (x :: l) 33 _ HRL.out (by omega) hnb)
        go_enter Tryd.func47, Tryd.ntmps47
        go_wp2_with fail
        refine HC.out.mono ?_
        rintro e w1 ⟨rfl, hr1, hg1⟩
        go_wp2_with fail
        go_ret
        rw [HV.out]
        exact ⟨rfl, hr1, hgr.trans hg1⟩
      · have HV : Hid (rdFlag (x :: l) 0 = (x.toNat == 1, l, 0)) := by unfold rdFlag; rw [Hid, if_neg (by simp)]; simp only; rw [if_neg hx]
        rw [HLEN.out, Nat.add_sub_cancel, List.drop_succ_cons, List.drop_zero] at HCUT
        by_cases hc1 : c = 1
        case' pos =>
          rw [if_pos hc1] at HCUT
          subst hc1
          have hl0 : l.length = 0 := by omega
          rw [hl0] at HCUT
        case' neg =>
          rw [if_neg hc1] at HCUT
        all_goals
          go_enter Tryd.func47, Tryd.ntmps47
          go_wp2_with fail
          generalize w.alloc (.cells #[.pointer (some ⟨g, 0, none⟩)] 68) = W at *
          go_region
          all_goals
            go_wp2_with fail
            go_ret
            rw [HV.out]
            exact ⟨by simp only [beq_nat_int]; rfl, ⟨_, _, _, Blk.drew (HBK.out.put 0 _), (Ub.beside HCUT HBK.out (by decide) (grown_drew (grown_put _ _ _ _)))⟩, hgr.trans (grown_drew (grown_put _ _ _ _))⟩
  · have HV : Hid (rdFlag l err = (false, l, err)) := by unfold rdFlag; rw [Hid, if_pos h0]
    have t0 : ((err : Int) != 0) = true := by rw [bne_iff_ne]; omega
    clear h0
    go_enter Tryd.func47, Tryd.ntmps47
    go_wp2_with fail
    go_ret
    rw [HV.out]
    exact ⟨rfl, HRL.out, hgr⟩
end Go.Proofs.YtlidbgidbpaenaaDoor

namespace Go.Proofs.YtlidbgidbpaenaaDoor
open Go Go.RowKit
set_option linter.unusedVariables false

theorem open_iff (l : List UInt8) (h : 4 ≤ l.length) : (l.take (l.length - 4) ++ beB (sumOf (l.take (l.length - 4))).toNat 4 = l) ↔ deB ((l.drop (l.length - 4)).take 4) = (sumOf (l.take (l.length - 4))).toNat := by
  have hd : (l.drop (l.length - 4)).length = 4 := by rw [List.length_drop]; omega
  have ht : (l.drop (l.length - 4)).take 4 = l.drop (l.length - 4) := List.take_of_length_le (by omega)
  rw [ht]
  constructor
  · intro he
    have : l.drop (l.length - 4) = beB (sumOf (l.take (l.length - 4))).toNat 4 := by
      have h2 : l.take (l.length - 4) ++ beB (sumOf (l.take (l.length - 4))).toNat 4 = l.take (l.length - 4) ++ l.drop (l.length - 4) := by rw [he, List.take_append_drop]
      exact (List.append_cancel_left h2).symm
    rw [this, deB_beB 4 _ (sum4 _)]
  · intro he
    have := beB_deB (l.drop (l.length - 4))
    rw [hd] at this
    rw [← he, this, List.take_append_drop]

def OpenPost (l : List UInt8) (w : World) (e : Ending) (w' : World) : Prop :=
  (∀ b, openB l = .ok b → ∃ A k c, e = .returned (.tuple #[.slice A k c, .int .i64 0]) ∧ Ob 5 w' w.heap.size (.slice A k c) b) ∧
  (∀ er, openB l = .error er → e = .returned (.tuple #[.slice none 0 0, .int .i64 (er : Int)])) ∧ Below w.heap.size w w'

set_option maxHeartbeats 1000000 in
set_option maxRecDepth 100000 in
theorem open_any (S : Nat → Prop) (v0 : Value) (l : List UInt8) (w : World) (hl : l.length ≤ 1099511627776) (hr : Bs S w v0 l) :
    Calls Tryd.prog 44 #[v0] w (OpenPost l w) := by
  have HR := Lib.hid hr
  have HR2 : Hid (Bs (fun b => b < w.heap.size) w v0 l) := (Sl.lt hr (by omega)).more (fun _ h => h.2)
  obtain ⟨A, c, rfl, hlc, hcm, hA0, hA⟩ := hr.at
  by_cases h4 : l.length < 4
  · clear hA hr hA0
    have HO : Hid (openB l = .error 20) := by unfold openB; rw [if_pos h4]; rfl
    go_enter Tryd.func44, Tryd.ntmps44
    go_wp2_with fail
    go_ret2
    exact ⟨fun b hb => (by rw [HO.out] at hb; cases hb), fun er her => (by rw [HO.out] at her; cases her; rfl), Below.refl _ _⟩
  · obtain ⟨b, o, rfl, _, _⟩ := hA (by omega)
    clear hA hA0
    have h4' : 4 ≤ l.length := by omega
    have HI := Lib.hid (open_iff l h4')
    have hn4 : (l.drop (l.length - 4)).length = 4 := by rw [List.length_drop]; omega
    have hc1 := Bs.pre hr (Nat.sub_le l.length 4)
    have HC1 := Lib.hid hc1
    have hc2 : Bs (fun b => b < w.heap.size) w (.slice (some ⟨b, o + (l.length - 4), none⟩) 4 (c - (l.length - 4))) (l.drop (l.length - 4)) := by
      have h := Bs.cut HR2.out (Nat.sub_le l.length 4)
      rw [if_neg (by omega), show l.length - (l.length - 4) = 4 from by omega] at h
      exact h
    have HC2 := Lib.hid hc2
    have e4 : l.length - (l.length - 4) = 4 := by omega
    have E4 := Lib.hid e4
    have hlt : (l.take (l.length - 4)).length = l.length - 4 := by rw [List.length_take]; omega
    have HLT := Lib.hid hlt
    have HO : Hid (openB l = if l.take (l.length - 4) ++ beB (sumOf (l.take (l.length - 4))).toNat 4 = l then .ok (l.take (l.length - 4)) else .error 21) := by unfold openB; rw [if_neg h4]; rfl
    have hne : ¬ c = l.length - 4 := by omega
    have HN4 := Lib.hid hn4
    clear hr hc1 hc2 h4 e4 hlt hn4
    go_enter Tryd.func44, Tryd.ntmps44
    go_wp2_with (at_builtin; go_loud (refine wpList_append_bs _ rfl (.tmp 11) (.tmp 16) elemU8 rfl (Ob.made _ _ w.heap.size (Nat.le_refl _) (by simp)) (Sl.alloc1 HC1.out _) rfl rfl (by rw [HLT.out]; simp; omega) (by simp) ?_); intro A1 k1 c1 w1 hown1 hg1 hat1)
    have hbl1 : Below w.heap.size w w1 := below_grown_own ((Below.refl _ _).alloc (Nat.le_refl _) _) (Ob.made _ _ w.heap.size (Nat.le_refl _) (by simp)) hg1 (by simp)
    have hs1 := hbl1.size
    have hown1' : Ob 5 w1 w.heap.size (.slice A1 k1 c1) (l.take (l.length - 4)) := hown1
    have HR1 : Hid (Bs (fun b => b < w.heap.size) w1 _ _) := Sl.below HC2.out hbl1 (fun _ h => h)
    have HW1 := Lib.hid hown1'
    clear hown1 hg1 hat1 hown1'
    rw [E4.out]
    refine (get_ok _ _ (l.drop (l.length - 4)) 4 w1 (by omega) (by omega) (by rw [HN4.out]; omega) (by rw [HN4.out]; omega) HR1.out).mono ?_
    rintro e w2 ⟨A2, k2, c2, rfl, _, hbl2⟩
    have HW2 := Lib.hid (HW1.out.later hbl2)
    have hbl2' := hbl1.trans (hbl2.mono hs1)
    clear hbl2 hbl1
    go_wp2_with fail
    refine (of_any _ _ (l.take (l.length - 4)) w2 (by rw [HLT.out]; omega) HW2.out.bs).mono ?_
    rintro e w3 ⟨rfl, hbl3⟩
    have HW3 := Lib.hid (HW2.out.later hbl3)
    have hbl3' := hbl2'.trans (hbl3.mono hbl2'.size)
    clear hbl3 hbl2'
    by_cases hd : deB ((l.drop (l.length - 4)).take 4) = (sumOf (l.take (l.length - 4))).toNat
    · have HO2 : Hid (openB l = .ok (l.take (l.length - 4))) := by rw [Hid, HO.out, if_pos (HI.out.2 hd)]
      have HD := Lib.hid hd
      rw [hd]
      clear hd
      go_wp2_with fail
      go_ret2
      exact ⟨fun b hb => (by rw [HO2.out] at hb; cases hb; exact ⟨A1, k1, c1, rfl, HW3.out⟩), fun er her => (by rw [HO2.out] at her; cases her), hbl3'⟩
    · have HO2 : Hid (openB l = .error 21) := by rw [Hid, HO.out, if_neg (fun h => hd (HI.out.1 h))]
      generalize deB ((l.drop (l.length - 4)).take 4) = dv at *
      have t1 : ((dv : Int) == ((sumOf (l.take (l.length - 4))).toNat : Int)) = false := by rw [beq_eq_false_iff_ne]; omega
      have t2 : ((dv : Int) != ((sumOf (l.take (l.length - 4))).toNat : Int)) = true := by rw [bne_iff_ne]; omega
      clear hd HI
      go_wp2_with fail
      go_ret2
      exact ⟨fun b hb => (by rw [HO2.out] at hb; cases hb), fun er her => (by rw [HO2.out] at her; cases her; rfl), hbl3'⟩

theorem ex_sum9 : sumOf [49, 50, 51, 52, 53, 54, 55, 56, 57] = 0xfc891918#32 := by decide +kernel
theorem ex_sum0 : sumOf [] = 0#32 := by decide +kernel
theorem ex_more : sumMore (sumOf [49, 50]) [51, 52, 53, 54, 55, 56, 57] = 0xfc891918#32 := by decide +kernel
theorem openB_seal (l : List UInt8) : openB (l ++ beB (sumOf l).toNat 4) = .ok l := by
  have hl : (l ++ beB (sumOf l).toNat 4).length - 4 = l.length := by rw [List.length_append, beB_length]; omega
  unfold openB
  rw [hl, List.take_left, if_neg (by rw [List.length_append, beB_length]; omega), if_pos rfl]

end Go.Proofs.YtlidbgidbpaenaaDoor
