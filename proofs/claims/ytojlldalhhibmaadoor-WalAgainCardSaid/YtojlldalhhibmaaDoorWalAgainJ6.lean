/- What the proof of WalAgain needs, part 6. -/
import Derived.Test.YtojlldalhhibmaaDoorWalAgainJ5
import Derived.BigQuiet
import Derived.Deep.QuietTactic
import Derived.Deep.RegionLaw
import Derived.StillTailTactics
import Derived.BigRegion
import Derived.Deep.RegionHeld3
import Derived.IntWalk
import Derived.Laws.EntriesVeiled

namespace Go.Proofs.YtojlldalhhibmaaDoor
open Go Go.RowKit
set_option linter.unusedVariables false

theorem recGet_lt' {l : List UInt8} {q : Nat} {t : List UInt8} {n : Nat} (h : recGet l = some ((q, t), n)) : q < U64 := by
  unfold recGet at h
  split at h
  · cases h
  · split at h
    · cases h
    · rename_i f hf
      have := (rdNum_le f (e := 0) (by omega)).1
      split at h
      · simp only [Option.some.injEq, Prod.mk.injEq] at h
        rw [← h.1.1]
        exact this
      · cases h
/-- What was found, in memory: its cells, and the slice of its records. -/
def fdC (x : Fd × Value) : List Value := [.int .i64 (x.1.at' : Int), .int .u64 (x.1.base : Int), .int .u64 (x.1.recs.length : Int), x.2]
def fcs (l : List (Fd × Value)) : List Value := l.flatMap fdC
theorem fcs_len (l : List (Fd × Value)) : (fcs l).length = l.length * 4 := by
  induction l with
  | nil => rfl
  | cons x xs ih => simp only [fcs, List.flatMap_cons, List.length_append] at ih ⊢; rw [ih]; simp [fdC]; omega
theorem fcs_snoc (l : List (Fd × Value)) (x : Fd × Value) : fcs (l ++ [x]) = fcs l ++ fdC x := by simp [fcs]
abbrev Rr (w : World) (v : Value) (rs : List Rcd) : Prop := KSl 41 2 w v rs.length (rcs rs)
structure Fs (w : World) (B : Nat) (v : Value) (L : List (Fd × Value)) : Prop where
  own : w.ownsRow B 60 4 v L.length (fcs L)
  recs : ∀ x ∈ L, Rr w x.2 x.1.recs ∧ x.1.recs.length ≤ 40000
theorem own_later {e : TypeId} {size n B : Nat} {w w' : World} {v : Value} {xs : List Value} (h : w.ownsRow B e size v n xs) (hb : Below w.heap.size w w') : w'.ownsRow B e size v n xs := by
  obtain ⟨h1, h2⟩ := h
  refine ⟨h1, ?_⟩
  rcases h2 with h2 | ⟨g, cap, cur, hv, hg, hh, r⟩
  · exact .inl h2
  · exact .inr ⟨g, cap, cur, hv, hg, (hb.block g (lt_of_block hh)).trans hh, r⟩
theorem Fs.later {w w' : World} {B : Nat} {v : Value} {L : List (Fd × Value)} (h : Fs w B v L) (hb : Below w.heap.size w w') : Fs w' B v L :=
  ⟨own_later h.own hb, fun x hx => ⟨KSl.later (h.recs x hx).1 hb, (h.recs x hx).2⟩⟩
theorem elemFd : Elem Tryd.prog 55 60 (.agg #[.int .i64 0, .int .u64 0, .int .u64 0, .slice none 0 0]) 4 48 := Elem.mk' Tryd.underlying55 (by kernel_rfl) rfl (by omega)
theorem fdC_one {x : Fd × Value} (h : ∃ A k c, x.2 = .slice A k c) : ∀ y ∈ fdC x, y.oneCell' = true := by
  obtain ⟨A, k, c, h⟩ := h
  intro y hy
  simp only [fdC, List.mem_cons, List.not_mem_nil, or_false] at hy
  rcases hy with rfl | rfl | rfl | rfl
  · rfl
  · rfl
  · rfl
  · rw [h]; rfl
theorem Sl.newfd (w : World) (x : Fd × Value) {g : Nat} (hg : g = w.heap.size) : Sl (fun _ => True) (w.alloc (.cells (fdC x).toArray 60)) 4 (.slice (some ⟨g, 0, none⟩) 1 1) 1 (fdC x) := by
  have := KSl.new w 60 4 (by omega) (fdC x).toArray 1 (by omega) (by simp [maxLen]) (by simp [fdC]) hg
  rw [List.toList_toArray] at this
  exact Sl.more this fun _ _ => trivial
theorem Fs.snoc {w w' : World} {B : Nat} {v v' : Value} {L : List (Fd × Value)} {x : Fd × Value} (h : Fs w B v L) (hown : w'.ownsRow B 60 4 v' (L.length + 1) (fcs L ++ fdC x)) (hs : SameK [some 41] w w') (hx : Rr w' x.2 x.1.recs) (hl : x.1.recs.length ≤ 40000) : Fs w' B v' (L ++ [x]) := by
  refine ⟨by rw [List.length_append, fcs_snoc]; exact hown, fun y hy => ?_⟩
  rw [List.mem_append, List.mem_singleton] at hy
  rcases hy with hy | rfl
  · exact ⟨KSl.same (h.recs y hy).1 hs (by decide), (h.recs y hy).2⟩
  · exact ⟨hx, hl⟩
theorem SameK.grown {ks : List (Option TypeId)} {w w' : World} {row : Option Nat} (hg : w.grownBy w' row) (hr : ∀ z t, row = some z → kindAt w z = some t → t ∉ ks) : SameK ks w w' := fun b t ht hk =>
  hg.block b (kind_lt hk) fun e => hr b t e.symm hk ht
theorem recScan_len : ∀ (k : Nat) (l : List UInt8) (f : Nat), (recScan k l f).1.length ≤ k
  | 0, l, f => by simp [recScan]
  | k + 1, l, f => by
    cases hg : recGet l with
    | none => rw [recScan_none hg]; simp
    | some r =>
      obtain ⟨r, n⟩ := r
      by_cases hq : r.1 = f % U64
      · rw [recScan_some hg hq]
        have := recScan_len k (l.drop n) (f + 1)
        simp only [List.length_cons]
        omega
      · rw [recScan_other hg hq]; simp
theorem ro_len {w : World} {B : Nat} {v : Value} {rs : List Rcd} (h : Ro w B v rs) : rs.length < U64 := by
  obtain ⟨_, A, c, _, h3, h4, _⟩ := Sl.of_own (by omega) h
  unfold maxLen at h4
  unfold U64
  omega
theorem rscan_eq (S : Nat → Prop) (v0 : Value) (l : List UInt8) (first : Nat) (rr : List Rcd × Nat) (hrr : recScan l.length l first = rr) (w : World) (hl : l.length ≤ 1099511627776) (hf : first < U64) (hr : Bs S w v0 l) :
    Calls Tryd.prog 32 #[v0, .int .u64 first] w fun e w' => ∃ A k c, e = .returned (.tuple #[.slice A k c, .int .i64 (rr.2 : Int)]) ∧ Ro w' w.heap.size (.slice A k c) rr.1 ∧ Below w.heap.size w w' := by
  rw [← hrr]
  exact rscan_any S v0 l first w hl hf hr
structure LkSt (w wr : World) (f : SF) (a : Int) (size i : Nat) (v : Value) (L : List (Fd × Value)) : Prop where
  all : L.map Prod.fst = wAll f a size i
  fs : Fs wr w.heap.size v L
  below : Below w.heap.size w wr
theorem LkSt.len {w wr : World} {f : SF} {a : Int} {size i : Nat} {v : Value} {L : List (Fd × Value)} (s : LkSt w wr f a size i v L) : L.length ≤ i := by
  have := wAll_len f a size i
  rw [← s.all, List.length_map] at this
  exact this
theorem LkSt.skip {w wr w' : World} {f : SF} {a : Int} {size i : Nat} {v : Value} {L : List (Fd × Value)} (s : LkSt w wr f a size i v L) (hn : wLook f a size i = none) (hb : Below wr.heap.size wr w') : LkSt w w' f a size (i + 1) v L :=
  ⟨by rw [s.all, wAll_succ, wCell_none hn, List.append_nil], s.fs.later hb, s.below.trans (hb.mono s.below.size)⟩
theorem LkSt.next {w wr w7 w8 : World} {f : SF} {a : Int} {size i q : Nat} {A A8 : Option Addr} {m c k8 c8 : Nat} {rv : Value} {L : List (Fd × Value)} {rs : List Rcd} {o : Obj} {B' : Nat} (s : LkSt w wr f a size i (.slice A m c) L) (hl : wLook f a size i = some (q, rs)) (h7 : Below wr.heap.size wr w7)
    (hr : Ro w7 B' rv rs) (hlr : rs.length ≤ 40000) (hown : w8.ownsRow w.heap.size 60 4 (.slice A8 k8 c8) (L.length + 1) (fcs L ++ fdC (⟨i, q, rs⟩, rv))) (hg : (w7.alloc o).grownBy w8 (Value.slice A m c).ownBlock) :
    LkSt w w8 f a size (i + 1) (.slice A8 k8 c8) (L ++ [(⟨i, q, rs⟩, rv)]) := by
  have qa := (Below.refl w7.heap.size w7).alloc (Nat.le_refl _) o
  have f8 := (s.fs.later h7).later qa
  have hs : SameK [some 41] (w7.alloc o) w8 := SameK.grown hg fun z t hz ht => by
    have := kind_own f8.own hz
    rw [this] at ht
    cases ht
    decide
  refine ⟨?_, f8.snoc hown hs ?_ hlr, ?_⟩
  · rw [List.map_append, s.all, wAll_succ, wCell_some hl]; rfl
  · exact KSl.same (KSl.later (KSl.of_own (by omega) hr) qa) hs (by decide)
  · exact below_grown_own ((s.below.trans (h7.mono s.below.size)).alloc (s.below.trans (h7.mono s.below.size)).size o) f8.own hg (Nat.le_trans (s.below.trans (h7.mono s.below.size)).size qa.size)
theorem wLook_of {f : SF} {a : Int} {size i : Nat} {b : List UInt8} (hb : wBytes f (a + (i : Int) * size) size = b) : wLook f a size i = wLookB b := by unfold wLook; rw [hb]

set_option maxHeartbeats 4000000 in
set_option maxRecDepth 100000 in
theorem lglook_any (h : Zn) (D : Dsk) (gl : Nat) (a : Int) (n size : Nat) (lv sv : Value) (last synced : Nat) (w : World) (hd : Dk w h D) (hok : D.Ok) (hl : Lb w gl h.g a n size lv sv last synced) (hn : n ≤ 64) (hs : size ≤ 64) (h0 : 0 ≤ a) (h1 : a ≤ 65536) :
    Calls Tryd.prog 17 #[.pointer (some ⟨gl, 0, none⟩)] w fun e w' => ∃ v L, e = .returned v ∧ LkSt w w' D.view a size n v L := by
  have HD := Lib.hid hd
  have HOK := Lib.hid hok
  have HL := Lib.hid hl
  have l2 : w.cell? ⟨gl, 2, none⟩ = some (.int .i64 (n : Int)) := hl.cell 2
  have htit : Hid (st titleB = ⟨#[115, 101, 103, 109, 101, 110, 116]⟩) := rfl
  clear hd hok hl
  go_enter Tryd.func17, Tryd.ntmps17
  go_wp2_with fail
  clear l2
  go_loopw [3, 15] (fun ov kv wr => ∃ (i : Nat) (A : Option Addr) (m c : Nat) (L : List (Fd × Value)), ov = .slice A m c ∧ kv = .int .i64 (i : Int) ∧ i ≤ n ∧ Hid (LkSt w wr D.view a size i (.slice A m c) L)) (fun _ kv _ => n - (intOf kv).toNat)
  case atStart => exact ⟨0, none, 0, 0, [], rfl, rfl, Nat.zero_le _, ⟨rfl, ⟨World.ownsRow_nil _ _ _ _, fun x hx => by cases hx⟩, Below.refl _ _⟩⟩
  case round =>
    obtain ⟨i, A, m, c, L, rfl, rfl, hi, B⟩ := hrel
    by_cases hlt : i < n
    · go_wp2_with fail
      refine (lgbytes_any h D gl a n size i lv sv last synced wr (HD.out.later B.out.below) HOK.out (HL.out.later B.out.below) hs (by omega) h0 h1).mono ?_
      rintro e w4 ⟨Ab, kb, cb, rfl, hob, hb4⟩
      obtain rfl := hob.len
      have hbl := wBytes_len HOK.out size (a + (i : Int) * size)
      have HLK := Lib.hid (wLook_of (f := D.view) (a := a) (size := size) (i := i) rfl)
      generalize wBytes D.view (a + (i : Int) * size) size = bs at *
      go_wp2_with fail
      refine (rget_any _ _ bs w4 (by omega) hob.bs).mono ?_
      rintro e w5 ⟨rfl, hb5⟩
      have q5 := Lib.hid (hb4.trans (hb5.mono hb4.size))
      have HOB := Lib.hid (hob.later hb5)
      clear hb4 hb5 hob
      unfold wLookB at HLK
      cases hg : recGet bs with
      | none =>
        rw [hg] at HLK
        have B5 := Lib.hid (B.out.skip HLK.out (q5.out.trans (((Below.refl w5.heap.size w5).alloc (Nat.le_refl _) (.cells #[.int .u64 0, .string (st [])] 41)).mono q5.out.size)))
        have hV : rgetV none = .tuple #[.agg #[.int .u64 0, .string (st [])], .int .i64 0, .bool false] := rfl
        rw [hV]
        clear hg hV
        go_wp2_with fail
        go_roundw
        case rel => exact ⟨i + 1, A, m, c, L, rfl, by go_num, by omega, B5⟩
        case measure => simp [intOf]; omega
      | some r =>
        obtain ⟨⟨q, t⟩, m2⟩ := r
        have HQ := Lib.hid (recGet_lt' hg)
        have hlen := recGet_len hg
        rw [hg] at HLK
        have hV : rgetV (some ((q, t), m2)) = .tuple #[.agg #[.int .u64 (q : Int), .string (st t)], .int .i64 (m2 : Int), .bool true] := rfl
        rw [hV]
        clear hg hV
        have qa := (Below.refl w5.heap.size w5).alloc (Nat.le_refl _) (.cells #[.int .u64 (q : Int), .string (st t)] 41)
        have BR := Lib.hid (Blk.new w5 41 #[.int .u64 (q : Int), .string (st t)])
        have Q6 := Lib.hid (q5.out.trans (qa.mono q5.out.size))
        have HB6 := Lib.hid (HOB.out.later qa)
        clear qa q5 HOB
        by_cases ht : t = titleB
        · subst ht
          have hll : wLook D.view a size i = some (q, (recScan (bs.drop m2).length (bs.drop m2) q).1) := by have := HLK.out; simpa using this
          have HDL : Hid ((bs.drop m2).length ≤ 1099511627776) := by rw [Hid, List.length_drop]; omega
          obtain ⟨rr, hrr⟩ : ∃ rr, recScan (bs.drop m2).length (bs.drop m2) q = rr := ⟨_, rfl⟩
          rw [hrr] at hll
          have HRR := Lib.hid hrr
          have HLL := Lib.hid hll
          obtain ⟨Ab', cb', hAb, hcb, hcm, -, hAA⟩ := HB6.out.bs.at
          injection hAb with e1 e2 e3
          subst e1 e3
          obtain ⟨bb, oo, rfl, -, -⟩ := hAA (by omega)
          clear hAA hll hrr
          have HCC : Hid ((cb = m2 → Hid (Bs (fun b => wr.heap.size ≤ b ∧ b < (w5.alloc (.cells #[.int .u64 (q : Int), .string (st titleB)] 41)).heap.size) (w5.alloc (.cells #[.int .u64 (q : Int), .string (st titleB)] 41)) (.slice (some ⟨bb, oo, none⟩) 0 0) (bs.drop m2))) ∧ (¬ cb = m2 → Hid (Bs (fun b => wr.heap.size ≤ b ∧ b < (w5.alloc (.cells #[.int .u64 (q : Int), .string (st titleB)] 41)).heap.size) (w5.alloc (.cells #[.int .u64 (q : Int), .string (st titleB)] 41)) (.slice (some ⟨bb, oo + m2, none⟩) (bs.length - m2) (cb - m2)) (bs.drop m2)))) := by
            have := HB6.out.bs.cut (k := m2) hlen.2
            exact ⟨fun h => by rw [if_pos h, h, Nat.sub_self, show bs.length - m2 = 0 by omega] at this; exact this, fun h => by rw [if_neg h] at this; exact this⟩
          have r1 : (w5.alloc (.cells #[.int .u64 (q : Int), .string (st titleB)] 41)).cell? ⟨w5.heap.size, 1, none⟩ = some (.string (st titleB)) := BR.out.cell 1
          have r0 : (w5.alloc (.cells #[.int .u64 (q : Int), .string (st titleB)] 41)).cell? ⟨w5.heap.size, 0, none⟩ = some (.int .u64 (q : Int)) := BR.out.cell 0
          have hbt : (titleB == [115, 101, 103, 109, 101, 110, 116]) = true := rfl
          have b1 : (0 : Int) ≤ (m2 : Int) := by omega
          have b2 : (m2 : Int) ≤ (bs.length : Int) := by omega
          go_wp2_with fail
          generalize w5.alloc _ = w6 at *
          generalize w5.heap.size = gr at *
          clear hbt r1
          by_cases hcn : cb = m2
          · have HCUT := HCC.out.1 hcn
            have hcn := hcn.symm
            subst hcn
            have r0 : w6.cell? ⟨gr, 0, none⟩ = some (.int .u64 (q : Int)) := BR.out.cell 0
            go_region_held3 (fun w' => w'.cell? ⟨gr, 0, none⟩ = some (.int .u64 (q : Int)))
              (first
                | (with_reducible assumption)
                | (simp only [World.cell?_drew]; with_reducible assumption)
                | (apply cell_later hb7; assumption))
              ((first
                | (go_at_call 32; refine (rscan_eq _ _ (bs.drop m2) q rr HRR.out _ HDL.out HQ.out (Bs.later HCUT.out (below_drewN (Below.refl _ _) 1))).mono ?_; rintro e w7 ⟨Ar, kr, cr, rfl, hro, hb7⟩)))
            have HRO := Lib.hid hro
            obtain rfl := hro.len
            have Q7 := Lib.hid (Q6.out.trans (((below_drewN (Below.refl w6.heap.size w6) 1).trans hb7).mono Q6.out.size))
            have BR7 := Lib.hid (BR.out.later ((below_drewN (Below.refl w6.heap.size w6) 1).trans hb7))
            clear hro hb7 r0
            have hrl : rr.1.length ≤ 40000 := by
              have h1 := recScan_len (bs.drop m2).length (bs.drop m2) q
              rw [HRR.out, List.length_drop] at h1
              omega
            have HRL := Lib.hid hrl
            have hwl := wrap_u64 (n := ((rr.1.length : Nat) : Int)) (by omega) (by unfold U64; omega)
            have r0 : w7.cell? ⟨gr, 0, none⟩ = some (.int .u64 (q : Int)) := BR7.out.cell 0
            have HOWN := Lib.hid (own_later B.out.fs.own Q7.out)
            have hll := B.out.len
            have hz7 := Nat.le_trans B.out.below.size Q7.out.size
            have hM1 : Hid (L.length + 1 ≤ maxLen) := by simp only [Hid, maxLen]; omega
            have hM2 : Hid ((L.length + 1) * 48 ≤ 140737488355328) := by rw [Hid]; omega
            have hM3 : Hid (∀ o : Obj, w.heap.size ≤ (w7.alloc o).heap.size) := fun o => by simp; omega
            have hM4 := Lib.hid (fdC_one (x := (⟨i, q, rr.1⟩, .slice Ar rr.1.length cr)) ⟨_, _, _, rfl⟩)
            go_wp2_with (at_builtin; refine wpList_append_sl _ rfl (.tmp 43) (.tmp 53) elemFd rfl (World.ownsRow.alloc HOWN.out _) (Sl.newfd w7 (⟨i, q, rr.1⟩, .slice Ar rr.1.length cr) rfl) rfl rfl hM4.out hM1.out hM2.out (hM3.out _) ?_; intro A8 k8 c8 w8 hown8 hg8 hat8)
            have BN := Lib.hid (B.out.next HLL.out Q7.out HRO.out HRL.out hown8 hg8)
            go_roundw
            case rel => exact ⟨i + 1, A8, k8, c8, _, rfl, by go_num, by omega, BN⟩
            case measure => simp [intOf]; omega
          · have HCUT := HCC.out.2 hcn
            have r0 : w6.cell? ⟨gr, 0, none⟩ = some (.int .u64 (q : Int)) := BR.out.cell 0
            go_region_held3 (fun w' => w'.cell? ⟨gr, 0, none⟩ = some (.int .u64 (q : Int)))
              (first
                | (with_reducible assumption)
                | (simp only [World.cell?_drew]; with_reducible assumption)
                | (apply cell_later hb7; assumption))
              ((first
                | (go_at_call 32; refine (rscan_eq _ _ (bs.drop m2) q rr HRR.out _ HDL.out HQ.out (Bs.later HCUT.out (below_drewN (Below.refl _ _) 1))).mono ?_; rintro e w7 ⟨Ar, kr, cr, rfl, hro, hb7⟩)))
            have HRO := Lib.hid hro
            obtain rfl := hro.len
            have Q7 := Lib.hid (Q6.out.trans (((below_drewN (Below.refl w6.heap.size w6) 1).trans hb7).mono Q6.out.size))
            have BR7 := Lib.hid (BR.out.later ((below_drewN (Below.refl w6.heap.size w6) 1).trans hb7))
            clear hro hb7 r0
            have hrl : rr.1.length ≤ 40000 := by
              have h1 := recScan_len (bs.drop m2).length (bs.drop m2) q
              rw [HRR.out, List.length_drop] at h1
              omega
            have HRL := Lib.hid hrl
            have hwl := wrap_u64 (n := ((rr.1.length : Nat) : Int)) (by omega) (by unfold U64; omega)
            have r0 : w7.cell? ⟨gr, 0, none⟩ = some (.int .u64 (q : Int)) := BR7.out.cell 0
            have HOWN := Lib.hid (own_later B.out.fs.own Q7.out)
            have hll := B.out.len
            have hz7 := Nat.le_trans B.out.below.size Q7.out.size
            have hM1 : Hid (L.length + 1 ≤ maxLen) := by simp only [Hid, maxLen]; omega
            have hM2 : Hid ((L.length + 1) * 48 ≤ 140737488355328) := by rw [Hid]; omega
            have hM3 : Hid (∀ o : Obj, w.heap.size ≤ (w7.alloc o).heap.size) := fun o => by simp; omega
            have hM4 := Lib.hid (fdC_one (x := (⟨i, q, rr.1⟩, .slice Ar rr.1.length cr)) ⟨_, _, _, rfl⟩)
            go_wp2_with (at_builtin; refine wpList_append_sl _ rfl (.tmp 43) (.tmp 53) elemFd rfl (World.ownsRow.alloc HOWN.out _) (Sl.newfd w7 (⟨i, q, rr.1⟩, .slice Ar rr.1.length cr) rfl) rfl rfl hM4.out hM1.out hM2.out (hM3.out _) ?_; intro A8 k8 c8 w8 hown8 hg8 hat8)
            have BN := Lib.hid (B.out.next HLL.out Q7.out HRO.out HRL.out hown8 hg8)
            go_roundw
            case rel => exact ⟨i + 1, A8, k8, c8, _, rfl, by go_num, by omega, BN⟩
            case measure => simp [intOf]; omega
        · have hno : wLook D.view a size i = none := by have := HLK.out; simpa [ht] using this
          have B6 := Lib.hid (B.out.skip hno Q6.out)
          have hbt : (t == [115, 101, 103, 109, 101, 110, 116]) = false := by
            rw [beq_eq_false_iff_ne]
            exact ht
          clear hno
          go_wp2_with fail
          go_roundw
          case rel => exact ⟨i + 1, A, m, c, L, rfl, by go_num, by omega, B6⟩
          case measure => simp [intOf]; omega
    · obtain rfl : i = n := by omega
      go_wp2_with fail
      go_ret
      exact ⟨_, L, rfl, B.out⟩
end Go.Proofs.YtojlldalhhibmaaDoor

namespace Go.Proofs.YtojlldalhhibmaaDoor
open Go Go.RowKit
set_option linter.unusedVariables false

def sgC (s : Sg) : List Value := [.int .i64 (s.at' : Int), .int .u64 (s.base : Int), .int .u64 (s.count : Int)]
def sgcs (l : List Sg) : List Value := l.flatMap sgC
theorem sgcs_len (l : List Sg) : (sgcs l).length = l.length * 3 := by
  induction l with
  | nil => rfl
  | cons x xs ih => simp only [sgcs, List.flatMap_cons, List.length_append] at ih ⊢; rw [ih]; simp [sgC]; omega
/-- The slice value v reads as the segments l. -/
abbrev Rg3 (w : World) (v : Value) (l : List Sg) : Prop := KSl 58 3 w v l.length (sgcs l)
theorem sgcs_get : ∀ (l : List Sg) (j : Nat) (hj : j < l.length), (sgcs l)[j * 3]? = some (.int .i64 (l[j].at' : Int)) ∧ (sgcs l)[j * 3 + 1]? = some (.int .u64 (l[j].base : Int)) ∧ (sgcs l)[j * 3 + 2]? = some (.int .u64 (l[j].count : Int))
  | x :: xs, 0, _ => ⟨rfl, rfl, rfl⟩
  | x :: xs, j + 1, hj => by
    have h := sgcs_get xs j (by simpa using hj)
    have e : sgcs (x :: xs) = sgC x ++ sgcs xs := rfl
    have g : ∀ k, (sgcs (x :: xs))[(j + 1) * 3 + k]? = (sgcs xs)[j * 3 + k]? := fun k => by
      rw [e, List.getElem?_append_right (by simp [sgC]; omega)]
      congr 1
      simp [sgC]
      omega
    refine ⟨?_, ?_, ?_⟩
    · rw [show (j + 1) * 3 = (j + 1) * 3 + 0 by omega, g]; exact h.1
    · rw [g]; exact h.2.1
    · rw [g]; exact h.2.2
theorem Rg3.at {w : World} {v : Value} {l : List Sg} (h : Rg3 w v l) : ∃ A c, v = .slice A l.length c ∧ l.length ≤ c ∧ c ≤ maxLen ∧
    (0 < l.length → ∃ b o, A = some ⟨b, o, none⟩ ∧ b < w.heap.size ∧ ∀ j (hj : j < l.length), w.cell? ⟨b, o + j * 3, none⟩ = some (.int .i64 (l[j].at' : Int)) ∧ w.cell? ⟨b, o + j * 3 + 1, none⟩ = some (.int .u64 (l[j].base : Int)) ∧ w.cell? ⟨b, o + j * 3 + 2, none⟩ = some (.int .u64 (l[j].count : Int))) := by
  obtain ⟨_, A, c, h2, h3, h4, h5, h6⟩ := KSl.lt h
  refine ⟨A, c, h2, h3, h4, fun hn => ?_⟩
  obtain ⟨b, o, ha, hs, hc⟩ := h6 hn
  refine ⟨b, o, ha, hs, fun j hj => ?_⟩
  have hg := sgcs_get l j hj
  refine ⟨hc _ _ hg.1, ?_, ?_⟩
  · rw [Nat.add_assoc]; exact hc _ _ hg.2.1
  · rw [Nat.add_assoc]; exact hc _ _ hg.2.2

set_option maxHeartbeats 1000000 in
theorem used1_any (x : Sg) (i gb : Nat) (w : World) (hb : Blk w gb 3 #[.int .i64 (i : Int)]) :
    Calls Tryd.prog 34 #[.agg #[.int .i64 (x.at' : Int), .int .u64 (x.base : Int), .int .u64 (x.count : Int)], .pointer (some ⟨gb, 0, none⟩)] w fun e w' => e = .returned (.bool (x.at' == i)) ∧ Below w.heap.size w w' := by
  have q := (Below.refl w.heap.size w).alloc (Nat.le_refl _) (.cells #[.int .i64 (x.at' : Int), .int .u64 (x.base : Int), .int .u64 (x.count : Int)] 58)
  have c0 : (w.alloc (.cells #[.int .i64 (x.at' : Int), .int .u64 (x.base : Int), .int .u64 (x.count : Int)] 58)).cell? ⟨gb, 0, none⟩ = some (.int .i64 (i : Int)) := (hb.later q).cell 0
  have hlt := hb.lt
  clear hb
  by_cases hx : x.at' = i
  · subst hx
    have hx2 : (x.at' == x.at') = true := by simp
    rw [hx2]
    clear hx2
    go_enter Tryd.func34, Tryd.ntmps34
    go_wp2_with fail
    go_ret
    exact ⟨by simp, q⟩
  · have hx2 : (x.at' == i) = false := by simpa using hx
    have hx4 := Lib.hid hx
    clear hx
    have hx3 : ¬ ((x.at' : Int) = (i : Int)) := by have := hx4.out; omega
    rw [hx2]
    clear hx2
    go_enter Tryd.func34, Tryd.ntmps34
    go_wp2_with fail
    go_ret
    exact ⟨by simp [hx3], q⟩

set_option maxHeartbeats 2000000 in
set_option maxRecDepth 100000 in
theorem sgindex_any (lv : Value) (live : List Sg) (i gb : Nat) (w : World) (hb : Blk w gb 3 #[.int .i64 (i : Int)]) (hl : Rg3 w lv live) :
    Calls Tryd.prog 48 #[lv, .func (Fn.func 34) #[] #[.pointer (some ⟨gb, 0, none⟩)]] w fun e w' => ∃ r : Int, e = .returned (.int .i64 r) ∧ (0 ≤ r ↔ usedL live i = true) ∧ Below w.heap.size w w' := by
  obtain ⟨A, c, rfl, hlc, hcm, hA⟩ := hl.at
  have HA := Lib.hid hA
  have HB := Lib.hid hb
  have hm : live.length ≤ 9223372036854775807 := by unfold maxLen at hcm; omega
  clear hl hb hA
  go_enter Tryd.func48, Tryd.ntmps48
  go_wp2_with fail
  go_loopw [8] (fun kv wr => ∃ k : Nat, kv = .int .i64 (k : Int) ∧ k ≤ live.length ∧ Hid (usedL (live.take k) i = false) ∧ Hid (Below w.heap.size w wr)) (fun kv _ => live.length - (intOf kv).toNat)
  case atStart => exact ⟨0, rfl, Nat.zero_le _, rfl, Below.refl _ _⟩
  case round =>
    obtain ⟨k, rfl, hk, HU, B⟩ := hrel
    by_cases hlt : k < live.length
    · obtain ⟨b, o, rfl, hbl, hcell⟩ := HA.out (by omega)
      obtain ⟨k0, k1, k2⟩ := hcell k hlt
      have x0 := (B.out.cell (p := ⟨b, o + k * 3, none⟩) hbl).trans k0
      have x1 := (B.out.cell (p := ⟨b, o + k * 3 + 1, none⟩) hbl).trans k1
      have x2 := (B.out.cell (p := ⟨b, o + k * 3 + 2, none⟩) hbl).trans k2
      have HBR := Lib.hid (HB.out.later B.out)
      have HT : Hid (live.take (k + 1) = live.take k ++ [live[k]]) := by rw [Hid, List.take_add_one, List.getElem?_eq_getElem hlt]; rfl
      have HM := Lib.hid (List.getElem_mem hlt)
      clear hcell k0 k1 k2
      generalize live[k] = x at *
      go_wp2_with fail
      refine (used1_any x i gb wr HBR.out).mono ?_
      rintro e w4 ⟨rfl, hb4⟩
      have B4 := Lib.hid (B.out.trans (hb4.mono B.out.size))
      by_cases hx : x.at' = i
      · have hx2 : (x.at' == i) = true := by simpa using hx
        rw [hx2]
        go_wp2_with fail
        go_ret
        exact ⟨_, rfl, ⟨fun _ => usedL_iff.2 ⟨x, HM.out, hx⟩, fun _ => by omega⟩, B4.out⟩
      · have hx2 : (x.at' == i) = false := by simpa using hx
        have HU2 : Hid (usedL (live.take (k + 1)) i = false) := by rw [Hid, HT.out, usedL_snoc, HU.out, hx2]; rfl
        rw [hx2]
        go_wp2_with fail
        go_roundw
        case rel => exact ⟨k + 1, by go_num, by omega, HU2, B4⟩
        case measure => simp [intOf]; omega
    · obtain rfl : k = live.length := by omega
      have hu := HU.out
      rw [List.take_length] at hu
      go_wp2_with fail
      go_ret
      exact ⟨_, rfl, ⟨fun h => by simp at h, fun h => by rw [hu] at h; cases h⟩, B.out⟩

set_option maxHeartbeats 1000000 in
theorem sgcontains_any (lv : Value) (live : List Sg) (i gb : Nat) (w : World) (hb : Blk w gb 3 #[.int .i64 (i : Int)]) (hl : Rg3 w lv live) :
    Calls Tryd.prog 33 #[lv, .func (Fn.func 34) #[] #[.pointer (some ⟨gb, 0, none⟩)]] w fun e w' => e = .returned (.bool (usedL live i)) ∧ Below w.heap.size w w' := by
  go_enter Tryd.func33, Tryd.ntmps33
  go_wp2_with fail
  refine (sgindex_any lv live i gb w hb hl).mono ?_
  rintro e w4 ⟨r, rfl, hr, hb4⟩
  have HR := Lib.hid hr
  clear hr
  go_wp2_with fail
  go_ret
  refine ⟨?_, hb4⟩
  have := HR.out
  cases hu : usedL live i
  · rw [hu] at this
    simp at this
    simp; omega
  · rw [hu] at this
    simp at this
    simp [this]

set_option maxHeartbeats 1000000 in
theorem lgused_any (gl hg : Nat) (a : Int) (n size i : Nat) (lv sv : Value) (last synced : Nat) (live : List Sg) (w : World) (hl : Lb w gl hg a n size lv sv last synced) (hs : Rg3 w lv live) :
    Calls Tryd.prog 21 #[.pointer (some ⟨gl, 0, none⟩), .int .i64 (i : Int)] w fun e w' => e = .returned (.bool (usedL live i)) ∧ Below w.heap.size w w' := by
  have qa := (Below.refl w.heap.size w).alloc (Nat.le_refl _) (.cells #[.int .i64 (i : Int)] 3)
  have l4 : (w.alloc (.cells #[.int .i64 (i : Int)] 3)).cell? ⟨gl, 4, none⟩ = some lv := (hl.later qa).cell 4
  have HS := Lib.hid (KSl.later hs qa)
  have HB := Lib.hid (Blk.new w 3 #[.int .i64 (i : Int)])
  have HQ := Lib.hid qa
  have hmf := run_makeFunc Tryd.prog
  obtain ⟨A, c, rfl, -⟩ := hs.at
  clear hl hs qa
  go_enter Tryd.func21, Tryd.ntmps21
  go_wp2_with fail
  refine (sgcontains_any _ live i _ _ HB.out HS.out).mono ?_
  rintro e w4 ⟨rfl, hb4⟩
  have q := HQ.out.trans (hb4.mono HQ.out.size)
  go_wp2_with fail
  go_ret
  exact ⟨rfl, q⟩
end Go.Proofs.YtojlldalhhibmaaDoor

namespace Go.Proofs.YtojlldalhhibmaaDoor
open Go Go.RowKit
set_option linter.unusedVariables false

abbrev Sec := Int × List UInt8
def scs (l : List Sec) : List Value := l.flatMap fun x => [.int .i64 x.1, .string (st x.2)]
theorem scs_len (l : List Sec) : (scs l).length = l.length * 2 := by
  induction l with
  | nil => rfl
  | cons r rs ih => simp only [scs, List.flatMap_cons, List.length_append, List.length_cons, List.length_nil] at ih ⊢; omega
theorem scs_append (a b : List Sec) : scs (a ++ b) = scs a ++ scs b := by simp [scs]
theorem scs_one (l : List Sec) : ∀ u ∈ scs l, u.oneCell' = true := by
  intro u hu
  obtain ⟨r, _, hu⟩ := List.mem_flatMap.1 hu
  simp at hu
  rcases hu with rfl | rfl <;> rfl
theorem scs_at {l : List Sec} {j : Nat} (h : j < l.length) : (scs l)[j * 2]? = some (.int .i64 l[j].1) ∧ (scs l)[j * 2 + 1]? = some (.string (st l[j].2)) := by
  induction l generalizing j with
  | nil => simp at h
  | cons r rs ih =>
    rcases j with _ | j
    · simp [scs]
    · have := ih (j := j) (by simpa using h)
      simp only [scs, List.flatMap_cons] at this ⊢
      rw [show (j + 1) * 2 = j * 2 + 1 + 1 by omega]
      simpa using this
def lookL (l : List Sec) (a : Int) : Option (List UInt8) := (l.find? fun x => x.1 == a).map (·.2)
theorem lookL_drop {l : List Sec} {i : Nat} (h : i < l.length) (a : Int) : lookL (l.drop i) a = if l[i].1 = a then some l[i].2 else lookL (l.drop (i + 1)) a := by
  unfold lookL
  rw [List.drop_eq_getElem_cons h]
  by_cases ha : l[i].1 = a
  · rw [if_pos ha, List.find?_cons_of_pos (by simp [ha])]; rfl
  · rw [if_neg ha, List.find?_cons_of_neg (by simpa using ha)]
end Go.Proofs.YtojlldalhhibmaaDoor

namespace Go.Proofs.YtojlldalhhibmaaDoor
open Go Go.RowKit
set_option linter.unusedVariables false

/-- A pending write of the document's, cell by cell. -/
def pnC : Pnd → Array Value
  | .wr a b => #[.int .i64 a, .bool false, .string (st b)]
  | .fr a => #[.int .i64 a, .bool true, .string ⟨#[]⟩]
def pnAt : Pnd → Int
  | .wr a _ => a
  | .fr a => a
/-- The list behind a write of which n bytes are done. -/
def rdL (l : List Sec) (p : Pnd) (n : Int) : List Sec := match p with
  | .wr a b => (l.filter fun y => y.1 != a) ++ [(a, tornB b ((lookL l a).getD []) n)]
  | .fr a => l.filter fun y => y.1 != a
theorem filter_take_succ {l : List Sec} {i : Nat} (h : i < l.length) (a : Int) : (l.take (i + 1)).filter (fun y => y.1 != a) = (l.take i).filter (fun y => y.1 != a) ++ (if l[i].1 = a then [] else [l[i]]) := by
  rw [List.take_succ_eq_append_getElem h, List.filter_append]
  congr 1
  by_cases ha : l[i].1 = a
  · rw [if_pos ha, List.filter_cons_of_neg (by simp [ha])]; rfl
  · rw [if_neg ha, List.filter_cons_of_pos (by simpa using ha)]; rfl

end Go.Proofs.YtojlldalhhibmaaDoor

namespace Go.Proofs.YtojlldalhhibmaaDoor
open Go Go.RowKit
set_option linter.unusedVariables false

def pncs (l : List Pnd) : List Value := l.flatMap fun p => (pnC p).toList
theorem pnC_len (p : Pnd) : (pnC p).toList.length = 3 := by cases p <;> rfl
theorem pncs_len (l : List Pnd) : (pncs l).length = l.length * 3 := by
  induction l with
  | nil => rfl
  | cons r rs ih => simp only [pncs, List.flatMap_cons, List.length_append, pnC_len, List.length_cons] at ih ⊢; omega
theorem pncs_append (a b : List Pnd) : pncs (a ++ b) = pncs a ++ pncs b := by simp [pncs]
theorem pncs_one (l : List Pnd) : ∀ u ∈ pncs l, u.oneCell' = true := by
  intro u hu
  obtain ⟨r, _, hu⟩ := List.mem_flatMap.1 hu
  cases r <;> simp [pnC] at hu <;> rcases hu with rfl | rfl | rfl <;> rfl
theorem pncs_at {l : List Pnd} {j : Nat} (h : j < l.length) {k : Nat} (hk : k < 3) : (pncs l)[j * 3 + k]? = (pnC l[j])[k]? := by
  induction l generalizing j with
  | nil => simp at h
  | cons r rs ih =>
    rcases j with _ | j
    · simp only [pncs, List.flatMap_cons, Nat.zero_mul, Nat.zero_add, List.getElem_cons_zero]
      rw [List.getElem?_append_left (by rw [pnC_len]; omega), Array.getElem?_toList]
    · have := ih (j := j) (by simpa using h)
      simp only [pncs, List.flatMap_cons, List.getElem_cons_succ] at this ⊢
      rw [List.getElem?_append_right (by rw [pnC_len]; omega), pnC_len, ← this]
      congr 1
      omega
/-- A disk of the document's. -/
structure RDk where
  size : Int
  limit : Int
  view : List Sec
  ground : List Sec
  pend : List Pnd
def Pnd.n : Pnd → Int
  | .wr _ b => b.length
  | .fr _ => 0
/-- The disk behind a write. -/
def RDk.put (R : RDk) (p : Pnd) : RDk := { R with pend := R.pend ++ [p], view := rdL R.view p p.n }
end Go.Proofs.YtojlldalhhibmaaDoor

namespace Go.Proofs.YtojlldalhhibmaaDoor
open Go Go.RowKit
set_option linter.unusedVariables false

theorem pnC_eq (p : Pnd) : ∃ a f b, pnC p = #[.int .i64 a, .bool f, .string (st b)] ∧ (b.length : Int) = p.n ∧ (∀ a' b', p = .wr a' b' → b = b') := by
  cases p with
  | wr a b => exact ⟨a, false, b, rfl, rfl, fun a' b' h => by cases h; rfl⟩
  | fr a => exact ⟨a, true, [], rfl, rfl, fun a' b' h => by cases h⟩

section
variable {w wr w' : World} {D pc Z : Array Value}
end
theorem Blk.put5 {w : World} {g : Nat} {t : TypeId} {a b c d e : Value} (h : Blk w g t #[a, b, c, d, e]) (x y z u v : Value) :
    Blk (((((w.setCell ⟨g, 0, none⟩ x).setCell ⟨g, 1, none⟩ y).setCell ⟨g, 2, none⟩ z).setCell ⟨g, 3, none⟩ u).setCell ⟨g, 4, none⟩ v) g t #[x, y, z, u, v] := ((((h.put 0 x).put 1 y).put 2 z).put 3 u).put 4 v
theorem below_put5 {B : Nat} {w0 w : World} {g : Nat} (h : Below B w0 w) (hg : B ≤ g) (x y z u v : Value) : Below B w0 (((((w.setCell ⟨g, 0, none⟩ x).setCell ⟨g, 1, none⟩ y).setCell ⟨g, 2, none⟩ z).setCell ⟨g, 3, none⟩ u).setCell ⟨g, 4, none⟩ v) :=
  ((((h.setCell hg _).setCell hg _).setCell hg _).setCell hg _).setCell hg _
/-- Where only blocks of another kind turned: five cells are put. -/
theorem KSl.put5 {e t : TypeId} {size n : Nat} {w : World} {v0 : Value} {xs : List Value} (h : KSl e size w v0 n xs) {g : Nat} {cs : Array Value} (hb : Blk w g t cs) (hne : t ≠ e) (x y z u v : Value) :
    KSl e size (((((w.setCell ⟨g, 0, none⟩ x).setCell ⟨g, 1, none⟩ y).setCell ⟨g, 2, none⟩ z).setCell ⟨g, 3, none⟩ u).setCell ⟨g, 4, none⟩ v) v0 n xs := by
  have hn : ∀ {w' : World} {cs' : Array Value}, Blk w' g t cs' → kindAt w' g ≠ some (some e) := fun h e' => hne (by rw [kind_blk h] at e'; injection e' with e'; injection e')
  have b0 := hb.put 0 x
  have b1 := b0.put 1 y
  have b2 := b1.put 2 z
  have b3 := b2.put 3 u
  exact ((((h.setCell (p := ⟨g, 0, none⟩) (hn hb) x).setCell (p := ⟨g, 1, none⟩) (hn b0) y).setCell (p := ⟨g, 2, none⟩) (hn b1) z).setCell (p := ⟨g, 3, none⟩) (hn b2) u).setCell (p := ⟨g, 4, none⟩) (hn b3) v
end Go.Proofs.YtojlldalhhibmaaDoor

namespace Go.Proofs.YtojlldalhhibmaaDoor
open Go Go.RowKit
set_option linter.unusedVariables false

theorem rdL_fin {f : SF} {n : Nat} {l : List Sec} (h : FinL f n l) (p : Pnd) (k : Int) : FinL (doP (f, n) p k).1 (doP (f, n) p k).2 (rdL l p k) := by
  cases p with
  | wr a b =>
    have e : lookL l a = f a := h.look a
    show FinL (f.put a (tornB b ((f a).getD []) k)) (f.nPut n a) ((l.filter fun y => y.1 != a) ++ [(a, tornB b ((lookL l a).getD []) k)])
    rw [e]
    exact h.put a _
  | fr a => exact h.del a
/-- The document's disk R is the plain one. -/
structure RDk.Is (R : RDk) (D : Dsk) : Prop where
  size : R.size = D.size
  limit : R.limit = D.limit
  view : FinL D.view D.nv R.view
  ground : FinL D.ground D.ng R.ground
  pend : R.pend = D.pend
theorem RDk.Is.put {R : RDk} {D : Dsk} (h : R.Is D) (p : Pnd) : (R.put p).Is (D.put p p.n) :=
  ⟨h.size, h.limit, rdL_fin h.view p p.n, h.ground, by show R.pend ++ [p] = D.pend ++ [p]; rw [h.pend]⟩
theorem agg5_2 {a b c d e a' b' c' d' e' : Value} (h : Value.agg #[a, b, c, d, e] = .agg #[a', b', c', d', e']) : c = c' := by
  injection h with h
  have := congrArg Array.toList h
  simp only [List.cons.injEq] at this
  exact this.2.2.1
theorem agg5_3 {a b c d e a' b' c' d' e' : Value} (h : Value.agg #[a, b, c, d, e] = .agg #[a', b', c', d', e']) : d = d' := by
  injection h with h
  have := congrArg Array.toList h
  simp only [List.cons.injEq] at this
  exact this.2.2.2.1
theorem agg5_4 {a b c d e a' b' c' d' e' : Value} (h : Value.agg #[a, b, c, d, e] = .agg #[a', b', c', d', e']) : e = e' := by
  injection h with h
  have := congrArg Array.toList h
  simp only [List.cons.injEq] at this
  exact this.2.2.2.2.1
theorem view_len {D : Dsk} (hok : D.Ok) (a : Int) : ((D.view a).getD []).length ≤ 512 := by
  cases hf : D.view a with
  | none => simp
  | some o => exact (hok.view.at hf).2.2
/-- What Free answers. -/
def Dsk.freeErr (D : Dsk) (a : Int) : Nat := if (D.view a).isSome then 0 else 61
end Go.Proofs.YtojlldalhhibmaaDoor

namespace Go.Proofs.YtojlldalhhibmaaDoor
open Go Go.RowKit
set_option linter.unusedVariables false

/-- The program's disk. -/
def dkKs : List (Option TypeId) := [some 49, none, some 78, some 3, some 52, some 5]
theorem Ub.same {ks : List (Option TypeId)} {w w' : World} {B : Nat} {v : Value} {l : List UInt8} (h : Ub w B v l) (hs : SameK ks w w') (hk : some 5 ∈ ks) : Ub w' B v l := h.keep fun b hb => hs b _ hk (kind_ub hb)
theorem Secs.same {ks : List (Option TypeId)} {w w' : World} {b n : Nat} {f : SF} (h : Secs w b f n) (hs : SameK ks w w') (h1 : none ∈ ks) (h2 : some 5 ∈ ks) : Secs w' b f n := by
  have hk := h.kind
  obtain ⟨m, hm, hr⟩ := h
  exact ⟨m, hm.sameK hk hs h1, fun a ha => (hr a ha).keep fun _ _ h => h.same hs h2⟩
theorem PnIs.same {w w' : World} {v : Value} {p : Pnd} (h : PnIs w v p) (hs : SameK dkKs w w') : PnIs w' v p := by
  cases p with
  | wr a b =>
    obtain ⟨ga, gb, A, c, h1, h2, h3, h4⟩ := h
    exact ⟨ga, gb, A, c, h1, h2.sameK hs (by decide), h3.sameK hs (by decide), h4.same hs (by decide)⟩
  | fr a =>
    obtain ⟨ga, h1, h2⟩ := h
    exact ⟨ga, h1, h2.sameK hs (by decide)⟩
theorem Dk.same {w w' : World} {h : Zn} {D : Dsk} (d : Dk w h D) (hs : SameK dkKs w w') : Dk w' h D := by
  obtain ⟨vs, h1, h2⟩ := d.pend
  exact ⟨d.blk.sameK hs (by decide), d.view.same hs (by decide) (by decide), d.ground.same hs (by decide) (by decide), d.ne, vs, h1.same hs (by decide), h2.keep fun _ _ h => h.same hs⟩
/-- A call on the program's disk leaves blocks of other kinds. -/
theorem Stp.same {ks : List (Option TypeId)} {h h' : Zn} {w w' : World} {D : Dsk} (s : Stp h w h' w') (d : Dk w h D) (hk : some 49 ∉ ks) (h0 : none ∉ ks) (hp : some 78 ∉ ks) : SameK ks w w' := fun b t ht hb =>
  s.turn.block b (kind_lt hb) fun e => by
    rcases d.kinds e with h3 | h3 | h3
    · exact SameK.not h3 hk hb ht
    · exact SameK.not h3 h0 hb ht
    · exact SameK.not h3 hp hb ht
end Go.Proofs.YtojlldalhhibmaaDoor

namespace Go.Proofs.YtojlldalhhibmaaDoor
open Go
set_option linter.unusedVariables false

/-- What a sector's bytes tell: a number above 0, and a body. -/
def tellsB (s : List UInt8) : Option (Nat × List UInt8) := match recGet s with
  | some ((q, t), n) => if n = s.length ∧ 0 < q then some (q, t) else none
  | none => none
/-- One sector more is looked at. -/
def mtStep (f : SF) (a : Int) (x : Nat × Int × List UInt8) (i : Int) : Nat × Int × List UInt8 := match f (a + i) with
  | some s => match tellsB s with
    | some (q, t) => if x.1 < q then (q, i, t) else x
    | none => x
  | none => x
def mtOpen (f : SF) (a : Int) : Nat × Int × List UInt8 := mtStep f a (mtStep f a (0, 1, []) 0) 1
def mtErr (x : Nat × Int × List UInt8) : Nat := if x.1 = 0 then 121 else 0

/-- The disk, the number and the last sector, behind so many steps; whether it was done; why not. -/
structure MtSt where
  D : Dsk
  num : Nat
  last : Int
  done : Bool
  err : Nat
def mtSteps (D : Dsk) (a : Int) (num : Nat) (last : Int) (body : List UInt8) (k : Int) : MtSt :=
  if 480 < body.length then ⟨D, num, last, false, 120⟩
  else if k < 1 then ⟨D, num, last, false, 0⟩
  else if k < 2 then ⟨D.free (a + (1 - last)), num, last, false, 0⟩
  else if k < 3 then ⟨(D.free (a + (1 - last))).sync, num, last, false, 0⟩
  else if (D.free (a + (1 - last))).sync.why (a + (1 - last)) (recB ((num + 1) % U64) body) ≠ 0 then
    ⟨(D.free (a + (1 - last))).sync, num, last, false, (D.free (a + (1 - last))).sync.why (a + (1 - last)) (recB ((num + 1) % U64) body)⟩
  else if k < 4 then ⟨(D.free (a + (1 - last))).sync.write (a + (1 - last)) (recB ((num + 1) % U64) body), num, last, false, 0⟩
  else ⟨((D.free (a + (1 - last))).sync.write (a + (1 - last)) (recB ((num + 1) % U64) body)).sync, (num + 1) % U64, 1 - last, true, 0⟩
end Go.Proofs.YtojlldalhhibmaaDoor

namespace Go.Proofs.YtojlldalhhibmaaDoor
open Go Go.RowKit
set_option linter.unusedVariables false

/-- Survivors as cells. -/
def pcs (l : List (Int × Int)) : List Value := l.flatMap fun x => [.int .i64 x.1, .int .i64 x.2]
theorem pcs_len (l : List (Int × Int)) : (pcs l).length = l.length * 2 := by
  induction l with
  | nil => rfl
  | cons r rs ih => simp only [pcs, List.flatMap_cons, List.length_append, List.length_cons, List.length_nil] at ih ⊢; omega
theorem pcs_at {l : List (Int × Int)} {j : Nat} (h : j < l.length) : (pcs l)[j * 2]? = some (.int .i64 l[j].1) ∧ (pcs l)[j * 2 + 1]? = some (.int .i64 l[j].2) := by
  induction l generalizing j with
  | nil => simp at h
  | cons r rs ih =>
    rcases j with _ | j
    · simp [pcs]
    · have := ih (j := j) (by simpa using h)
      simp only [pcs, List.flatMap_cons] at this ⊢
      rw [show (j + 1) * 2 = j * 2 + 1 + 1 by omega]
      simpa using this
/-- The slice value v reads as the survivors l. -/
def Sv (S : Nat → Prop) (w : World) (v : Value) (l : List (Int × Int)) : Prop := Sl S w 2 v l.length (pcs l)
theorem Sv.at {S : Nat → Prop} {w : World} {v : Value} {l : List (Int × Int)} (h : Sv S w v l) : ∃ A c, v = .slice A l.length c ∧
    (0 < l.length → ∃ b o, A = some ⟨b, o, none⟩ ∧ b < w.heap.size ∧ ∀ j (hj : j < l.length), w.cell? ⟨b, o + j * 2, none⟩ = some (.int .i64 l[j].1) ∧ w.cell? ⟨b, o + j * 2 + 1, none⟩ = some (.int .i64 l[j].2)) := by
  obtain ⟨_, A, c, h2, h3, h4, h5, h6⟩ := h
  refine ⟨A, c, h2, fun hn => ?_⟩
  obtain ⟨b, o, ha, hs, hc⟩ := h6 hn
  have h0 := hc _ _ (pcs_at hn).1
  refine ⟨b, o, ha, World.block_lt_of_cell? w _ h0, fun j hj => ⟨hc _ _ (pcs_at hj).1, ?_⟩⟩
  rw [Nat.add_assoc]
  exact hc _ _ (pcs_at hj).2
def fstOf (l : List (Int × Int)) (a : Int) : Option Int := (l.find? fun x => x.1 == a).map (·.2)
theorem fstOf_drop {l : List (Int × Int)} {i : Nat} (h : i < l.length) (a : Int) : fstOf (l.drop i) a = if a = l[i].1 then some l[i].2 else fstOf (l.drop (i + 1)) a := by
  unfold fstOf
  rw [List.drop_eq_getElem_cons h]
  by_cases ha : a = l[i].1
  · rw [if_pos ha, List.find?_cons_of_pos (by simp [ha])]; rfl
  · rw [if_neg ha, List.find?_cons_of_neg (by simp; exact fun e => ha e.symm)]
theorem keptN_fst (l : List (Int × Int)) (k : Nat) : keptN l k = fstOf l (k : Int) := rfl
theorem crashF_snoc (l : List (Int × Int)) : ∀ (ps : List Pnd) (p : Pnd) (k : Nat) (s : SF × Nat), crashF l k (ps ++ [p]) s = match keptN l (k + ps.length) with | some n => doP (crashF l k ps s) p n | none => crashF l k ps s
  | [], p, k, s => by
    simp only [List.nil_append, crashF, List.length_nil, Nat.add_zero]
    cases keptN l k <;> rfl
  | q :: ps, p, k, s => by
    rw [List.cons_append, crashF, crashF_snoc l ps p (k + 1)]
    rw [show k + 1 + ps.length = k + (q :: ps).length by simp; omega]
    rfl
theorem fstOf_in {l : List (Int × Int)} (h : ∀ x ∈ l, InI x.1 ∧ InI x.2) {a n : Int} (hf : fstOf l a = some n) : InI n := by
  unfold fstOf at hf
  cases hfd : l.find? (fun x => x.1 == a) with
  | none => rw [hfd] at hf; cases hf
  | some x =>
    rw [hfd] at hf
    simp only [Option.map_some, Option.some.injEq] at hf
    subst hf
    exact (h x (List.mem_of_find?_eq_some hfd)).2
theorem miTy : Tryd.prog.underlying 74 = some (.map 3 3) := Tryd.underlying74
theorem zeroInt (w : World) : (zeroValue 3).run Tryd.prog w = .ok (.int .i64 0) w := by kernel_rfl

theorem closure_call {w : World} {v : Value} {p : Pnd} {bm n0 : Nat} {f : SF} {n : Int} (hp : PnIs w v p) (hpo : PnOk p) (hs : Secs w bm f n0) (hf : FinK f n0) (hn : InI n) {fn : FuncId} {args : Array Value}
    (hv : ∃ caps, v = .func (Fn.func fn) #[] caps ∧ args = #[.map (some bm), .int .i64 n] ++ caps) :
    Calls Tryd.prog fn args w fun e w' => e = .returned (.tuple #[]) ∧ Secs w' bm (doP (f, n0) p n).1 (doP (f, n0) p n).2 ∧ w.grownBy w' (some bm) := by
  obtain ⟨fn', caps', hf', hcall⟩ := closure_any hp hpo hs hf hn (Q := fun e w' => e = .returned (.tuple #[]) ∧ Secs w' bm (doP (f, n0) p n).1 (doP (f, n0) p n).2 ∧ w.grownBy w' (some bm)) (fun w' h1 h2 => ⟨rfl, h1, h2⟩)
  obtain ⟨caps, hpv, harg⟩ := hv
  rw [hpv] at hf'
  injection hf' with hf1 hf2 hf3
  injection hf1 with hf1
  subst hf1 hf3
  exact hcall args harg
/-- The second loop: so many pending writes were looked at. -/
structure CrSt (w wr : World) (h : Zn) (D : Dsk) (l : List (Int × Int)) (vs : List Value) (i nl : Nat) : Prop where
  blk : Blk wr h.g 49 #[.int .i64 D.size, .int .i64 D.limit, .map (some h.bv), .map (some h.bg), h.pv]
  ground : Secs wr h.bg (crashF l 0 (D.pend.take i) (D.ground, D.ng)).1 (crashF l 0 (D.pend.take i) (D.ground, D.ng)).2
  pend : Ow 78 wr 0 h.pv vs ∧ PnL wr vs D.pend
  left : ∃ lm, MpV Tryd.prog 3 wr w.heap.size lm nl ∧ ∀ a, InI a → lm a = (fstOf l a).map (Value.int .i64)
  turn : Turn h.has w wr
  bgl : h.bg < w.heap.size

theorem crst_step {w wr w3 : World} {h : Zn} {D : Dsk} {l : List (Int × Int)} {vs : List Value} {i nl : Nat} (hst : CrSt w wr h D l vs i nl)
    (hs3 : Secs w3 h.bg (crashF l 0 (D.pend.take (i + 1)) (D.ground, D.ng)).1 (crashF l 0 (D.pend.take (i + 1)) (D.ground, D.ng)).2) (hg3 : wr.grownBy w3 (some h.bg)) : CrSt w w3 h D l vs (i + 1) nl := by
  have kv := hst.ground.kind
  obtain ⟨lm, hlm, hlv⟩ := hst.left
  refine ⟨hst.blk.grown hg3 (fun e => ?_), hs3, ⟨hst.pend.1.other (fun e => ?_) hg3, hst.pend.2.keep fun v p hp => hp.other (fun t ht => by rw [kv]; simp) hg3⟩, ⟨lm, ?_, hlv⟩, hst.turn.trans (Turn.of_grown (F := h.has) hg3 (fun z hz => by injection hz with hz; exact .inr (.inr (.inl hz.symm)))) (fun b hb => .inl hb), hst.bgl⟩
  · injection e with e
    have e2 : h.g = h.bg := by first | exact e | exact e.symm
    exact absurd ((kind_blk hst.blk).symm.trans ((congrArg (kindAt _) e2).trans kv)) (by simp)
  · have := kind_own hst.pend.1 e
    rw [kv] at this
    cases this
  · exact hlm.other (by have := hst.bgl; omega) hg3

set_option maxHeartbeats 2000000 in
set_option maxRecDepth 100000 in
theorem dcrash_any (h : Zn) (D : Dsk) (S : Nat → Prop) (v0 : Value) (l : List (Int × Int)) (w : World) (hd : Dk w h D) (hok : D.Ok) (hsv : Sv S w v0 l) (hin : ∀ x ∈ l, InI x.1 ∧ InI x.2) (hll : l.length ≤ 1000000) (hlen : D.pend.length ≤ 1000000000) :
    Calls Tryd.prog 16 #[.pointer (some ⟨h.g, 0, none⟩), v0] w fun e w' => e = .returned (.tuple #[]) ∧ ∃ h', Dk w' h' (D.crash l) ∧ Stp h w h' w' := by
  obtain ⟨g, bv, bg, sl⟩ := h
  obtain ⟨A, c, rfl, hA⟩ := hsv.at
  have HA := Lib.hid hA
  have HD := Lib.hid hd
  have HOK := Lib.hid hok
  have HIN := Lib.hid hin
  have hmm := @run_makeMap Tryd.prog
  have hM0 : Hid (MpV Tryd.prog 3 (w.alloc (.map #[] 0)) w.heap.size (fun _ => none) 0) := MpV.made _ _ w
  have q0 : Below w.heap.size w (w.alloc (.map #[] 0)) := (Below.refl _ _).alloc (Nat.le_refl _) _
  clear hd hok hin hA hsv
  go_enter Tryd.func16, Tryd.ntmps16
  go_wp2_with fail
  go_loopw [5] (fun iv wr => ∃ (i : Nat) (lm : Int → Option Value) (nl : Nat), iv = .int .i64 ((i : Int) - 1) ∧ i ≤ l.length ∧ nl ≤ l.length - i ∧ MpV Tryd.prog 3 wr w.heap.size lm nl ∧ Hid (∀ a, InI a → lm a = (fstOf (l.drop i) a).map (Value.int .i64)) ∧ Below w.heap.size w wr) (fun iv _ => (intOf iv + 1).toNat)
  case atStart =>
    exact ⟨l.length, _, 0, rfl, Nat.le_refl _, by omega, hM0.out, fun a _ => by rw [List.drop_length]; rfl, q0⟩
  case round =>
    obtain ⟨i, lm, nl, rfl, hi, hnl, hm, hlm, hbl⟩ := hrel
    have HM := Lib.hid hm
    clear hm
    rcases i with _ | j
    · have HLM : Hid (∀ a, InI a → lm a = (fstOf l a).map (Value.int .i64)) := fun a ha => by have := hlm.out a ha; rw [List.drop_zero] at this; exact this
      obtain ⟨vs, hown, hpl⟩ := HD.out.pend
      obtain ⟨A0, c0, hsl, hsA⟩ := Ow.shape hown
      simp only at hsl
      subst hsl
      have HVL := Lib.hid hpl.1
      have hvb : vs.length ≤ 1000000000 := by have := hpl.1; omega
      have hbvl := HD.out.view.lt
      have hbgl := HD.out.ground.lt
      have hgl := HD.out.blk.lt
      simp only at hbvl hbgl hgl
      have qr := hbl
      have hsz := qr.size
      have d1 := HD.out.later qr
      have HSA : Hid (0 < vs.length → ∃ g', A0 = some ⟨g', 0, none⟩) := fun h0 => by obtain ⟨g', h1, _⟩ := hsA h0; exact ⟨g', h1⟩
      have S0 : CrSt w wr ⟨g, bv, bg, .slice A0 vs.length c0⟩ D l vs 0 nl := ⟨d1.blk, by rw [List.take_zero]; exact d1.ground, ⟨Ow.later hown qr, hpl.keep fun _ _ h => h.later qr⟩, ⟨lm, HM.out, HLM.out⟩, Turn.of_below qr, hbgl⟩
      have c4 : wr.cell? ⟨g, 4, none⟩ = some (.slice A0 vs.length c0) := d1.blk.cell 4
      clear d1 hsA hpl hown hlm hbl HM HLM qr
      go_wp2_with fail
      go_loopw [34] (fun iv wq => ∃ i : Nat, iv = .int .i64 (i : Int) ∧ i ≤ vs.length ∧ CrSt w wq ⟨g, bv, bg, .slice A0 vs.length c0⟩ D l vs i nl) (fun iv _ => vs.length - (intOf iv).toNat)
      case atStart => exact ⟨0, rfl, Nat.zero_le _, S0⟩
      case round =>
        clear S0
        obtain ⟨i, rfl, hi, hst⟩ := hrel
        have HST := Lib.hid hst
        have c2 : wr.cell? ⟨g, 2, none⟩ = some (.map (some bv)) := hst.blk.cell 2
        have c3 : wr.cell? ⟨g, 3, none⟩ = some (.map (some bg)) := hst.blk.cell 3
        have c4 : wr.cell? ⟨g, 4, none⟩ = some (.slice A0 vs.length c0) := hst.blk.cell 4
        have HFK : Hid (FinK (crashF l 0 (D.pend.take i) (D.ground, D.ng)).1 (crashF l 0 (D.pend.take i) (D.ground, D.ng)).2) := crashF_ok l _ 0 _ HOK.out.ground fun p hp => HOK.out.pend p (List.mem_of_mem_take hp)
        have hlenv := HVL.out
        by_cases hil : i < vs.length
        · obtain ⟨g', c', hv', _, hg'l, hcells, _⟩ := Ow.open hst.pend.1 (by omega)
          injection hv' with hA' _ hc'
          subst hA' hc'
          have cp : wr.cell? ⟨g', i, none⟩ = some vs[i] := hcells i hil
          have hps : i < D.pend.length := by omega
          have hpn := hst.pend.2.2 i vs[i] D.pend[i] (List.getElem?_eq_getElem hil) (List.getElem?_eq_getElem hps)
          obtain ⟨lm, hlm, hlv⟩ := hst.left
          have hii : InI (i : Int) := by unfold InI; omega
          have hlk := hlm.look intTy miTy (zeroInt wr) hii
          rw [hlv _ hii] at hlk
          have HEQ : Hid (crashF l 0 (D.pend.take (i + 1)) (D.ground, D.ng) = match fstOf l (i : Int) with | some n => doP (crashF l 0 (D.pend.take i) (D.ground, D.ng)) D.pend[i] n | none => crashF l 0 (D.pend.take i) (D.ground, D.ng)) := by
            rw [Hid, List.take_succ_eq_append_getElem hps, crashF_snoc, List.length_take, Nat.zero_add, Nat.min_eq_left (Nat.le_of_lt hps)]
            rfl
          obtain ⟨vq, hvq0⟩ : ∃ v, vs[i] = v := ⟨_, rfl⟩
          rw [hvq0] at cp hpn
          have hiv : (i : Int) < (vs.length : Int) := by omega
          have hi0 : (0 : Int) ≤ (i : Int) := by omega
          clear hst hcells hlm hlv hvq0 hlenv
          cases hk : fstOf l (i : Int) with
          | none =>
            rw [hk] at hlk
            simp only [Option.map_none, Option.getD_none, Option.isSome_none] at hlk
            have HEQ2 : Hid (crashF l 0 (D.pend.take (i + 1)) (D.ground, D.ng) = crashF l 0 (D.pend.take i) (D.ground, D.ng)) := by rw [Hid, HEQ.out, hk]
            cases hpe : D.pend[i] with
            | wr a b =>
              rw [hpe] at hpn
              obtain ⟨ga, gb, Ab, cb, hvq, _⟩ := hpn
              rw [hvq] at cp
              clear hpe
              go_wp2_with fail
              go_roundw
              case rel => exact ⟨i + 1, by go_num, by omega, ⟨HST.out.blk, by rw [HEQ2.out]; exact HST.out.ground, HST.out.pend, HST.out.left, HST.out.turn, HST.out.bgl⟩⟩
              case measure => simp [intOf]; omega
            | fr a =>
              rw [hpe] at hpn
              obtain ⟨ga, hvq, _⟩ := hpn
              rw [hvq] at cp
              clear hpe
              go_wp2_with fail
              go_roundw
              case rel => exact ⟨i + 1, by go_num, by omega, ⟨HST.out.blk, by rw [HEQ2.out]; exact HST.out.ground, HST.out.pend, HST.out.left, HST.out.turn, HST.out.bgl⟩⟩
              case measure => simp [intOf]; omega
          | some n =>
            rw [hk] at hlk
            simp only [Option.map_some, Option.getD_some, Option.isSome_some] at hlk
            have hnI : InI n := fstOf_in HIN.out hk
            rw [hk] at HEQ
            simp only at HEQ
            cases hpe : D.pend[i] with
            | wr a b =>
              rw [hpe] at hpn
              have HPN := Lib.hid hpn
              have HEQ2 : Hid (crashF l 0 (D.pend.take (i + 1)) (D.ground, D.ng) = doP (crashF l 0 (D.pend.take i) (D.ground, D.ng)) (.wr a b) n) := by rw [Hid, HEQ.out, hpe]
              have HPO2 : Hid (PnOk (.wr a b)) := by rw [Hid, ← hpe]; exact HOK.out.pend _ (List.getElem_mem hps)
              obtain ⟨ga, gb, Ab, cb, hvq, _⟩ := hpn
              rw [hvq] at cp
              have HCC : Hid (∀ args, (∃ caps, vq = .func (Fn.func 64) #[] caps ∧ args = #[.map (some bg), .int .i64 n] ++ caps) → Calls Tryd.prog 64 args wr fun e w' => e = .returned (.tuple #[]) ∧ Secs w' bg (doP (crashF l 0 (D.pend.take i) (D.ground, D.ng)) (.wr a b) n).1 (doP (crashF l 0 (D.pend.take i) (D.ground, D.ng)) (.wr a b) n).2 ∧ wr.grownBy w' (some bg)) := fun args hx => closure_call HPN.out HPO2.out HST.out.ground HFK.out hnI hx
              clear hpe
              go_wp2_with fail
              refine Calls.mono (HCC.out _ ⟨_, hvq, rfl⟩) ?_
              rintro e w3 ⟨rfl, hs3, hg3⟩
              have HS3 := Lib.hid hs3
              have HG3 := Lib.hid hg3
              clear hs3 hg3
              go_wp2_with fail
              go_roundw
              case rel =>
                repeat (apply Exists.intro)
                apply And.intro
                rotate_left 1
                · rfl
                all_goals first
                  | exact ⟨i + 1, by go_num, by omega, crst_step HST.out (by rw [HEQ2.out]; exact HS3.out) HG3.out⟩
                  | exact undef
              case measure => simp [intOf]; omega
            | fr a =>
              rw [hpe] at hpn
              have HPN := Lib.hid hpn
              have HEQ2 : Hid (crashF l 0 (D.pend.take (i + 1)) (D.ground, D.ng) = doP (crashF l 0 (D.pend.take i) (D.ground, D.ng)) (.fr a) n) := by rw [Hid, HEQ.out, hpe]
              have HPO2 : Hid (PnOk (.fr a)) := by rw [Hid, ← hpe]; exact HOK.out.pend _ (List.getElem_mem hps)
              obtain ⟨ga, hvq, _⟩ := hpn
              rw [hvq] at cp
              have HCC : Hid (∀ args, (∃ caps, vq = .func (Fn.func 61) #[] caps ∧ args = #[.map (some bg), .int .i64 n] ++ caps) → Calls Tryd.prog 61 args wr fun e w' => e = .returned (.tuple #[]) ∧ Secs w' bg (doP (crashF l 0 (D.pend.take i) (D.ground, D.ng)) (.fr a) n).1 (doP (crashF l 0 (D.pend.take i) (D.ground, D.ng)) (.fr a) n).2 ∧ wr.grownBy w' (some bg)) := fun args hx => closure_call HPN.out HPO2.out HST.out.ground HFK.out hnI hx
              clear hpe
              go_wp2_with fail
              refine Calls.mono (HCC.out _ ⟨_, hvq, rfl⟩) ?_
              rintro e w3 ⟨rfl, hs3, hg3⟩
              have HS3 := Lib.hid hs3
              have HG3 := Lib.hid hg3
              clear hs3 hg3
              go_wp2_with fail
              go_roundw
              case rel =>
                repeat (apply Exists.intro)
                apply And.intro
                rotate_left 1
                · rfl
                all_goals first
                  | exact ⟨i + 1, by go_num, by omega, crst_step HST.out (by rw [HEQ2.out]; exact HS3.out) HG3.out⟩
                  | exact undef
              case measure => simp [intOf]; omega
        · obtain rfl : i = vs.length := by omega
          have HEQ : Hid (D.pend.take vs.length = D.pend) := by rw [Hid, HVL.out, List.take_length]
          clear hst hlenv
          go_wp2_with fail
          refine (copied_any bg _ _ wr HST.out.ground HFK.out).mono ?_
          rintro e w1 ⟨bo, rfl, hbo, hs, hbl⟩
          have b1 := HST.out.blk.later hbl
          have HB1 := Lib.hid b1
          have HS := Lib.hid hs
          have HBL := Lib.hid hbl
          have c2 : w1.cell? ⟨g, 2, none⟩ = some (.map (some bv)) := b1.cell 2
          have c4 : w1.cell? ⟨g, 4, none⟩ = some _ := b1.cell 4
          have f2 := b1.free 2
          have f4 := b1.free 4
          clear b1 hs hbl
          go_wp2_with fail
          go_end0
          have kd := kind_blk HB1.out
          have b2 := HB1.out.put 2 (.map (some bo))
          have kd1 := kind_blk b2
          have hk : ∀ {b n : Nat} {f : SF}, Secs w1 b f n → Secs ((w1.setCell ⟨g, 2, none⟩ (.map (some bo))).setCell ⟨g, 4, none⟩ (.slice none 0 0)) b f n := fun hs => by
            have h1 := hs.other (z := g) (fun e => by have := hs.kind; rw [e] at this; rw [kd] at this; cases this) (by rw [kd]; decide) (grown_cell (g := g) (i := 2) (.map (some bo)))
            exact h1.other (z := g) (fun e => by have := h1.kind; rw [e] at this; rw [kd1] at this; cases this) (by rw [kd1]; decide) (grown_cell (g := g) (i := 4) (.slice none 0 0))
          have gr := HST.out.ground.later HBL.out
          have grl := HST.out.ground.lt
          rw [HEQ.out] at gr HS
          have hszq := HST.out.turn.size
          refine ⟨rfl, ⟨g, bo, bg, .slice none 0 0⟩, ⟨b2.put 4 _, hk HS.out, hk gr, fun e => by simp only at e grl; omega, [], World.ownsRow_nil _ _ _ _, PnL.nil _⟩, rfl, ((HST.out.turn.trans (Turn.of_below (F := fun _ => False) HBL.out) (fun _ h => h.elim)).setCell (.inl (.inl rfl)) _).setCell (.inl (.inl rfl)) _, fun b hb => ?_⟩
          rcases hb with h | h | h | h
          · exact .inl (.inl h)
          · right; simp only at h; omega
          · exact .inl (.inr (.inr (.inl h)))
          · cases h
    · obtain ⟨b, o, rfl, hbs, hc⟩ := HA.out (by omega)
      have hjl : j < l.length := by omega
      have c0 : wr.cell? ⟨b, o + j * 2, none⟩ = some (.int .i64 l[j].1) := (hbl.cell (p := ⟨b, o + j * 2, none⟩) hbs).trans (hc j hjl).1
      have c1 : wr.cell? ⟨b, o + j * 2 + 1, none⟩ = some (.int .i64 l[j].2) := (hbl.cell (p := ⟨b, o + j * 2 + 1, none⟩) hbs).trans (hc j hjl).2
      have hj0 : (0 : Int) ≤ (j : Int) := by omega
      have hjc : (j : Int) < (l.length : Int) := by omega
      have HLM := Lib.hid hlm.out
      have hwj : IntKind.i64.wrap ((j : Int) - 1) = (j : Int) - 1 := IntWalk.i64_in _ (by omega)
      have hij := HIN.out _ (List.getElem_mem hjl)
      have HFD := Lib.hid (fun a => fstOf_drop hjl a)
      obtain ⟨w3, hrun3, hm3, ht3⟩ := (MpV.drew HM.out).put intTy miTy (by unfold maxLen; omega) hij.1 (.int .i64 l[j].2)
      have HM3 := Lib.hid hm3
      have HT3 := Lib.hid ht3
      have HBL := Lib.hid (hbl.drew)
      have c0d : wr.drew.cell? ⟨b, o + j * 2, none⟩ = some (.int .i64 l[j].1) := c0
      have c1d : wr.drew.cell? ⟨b, o + j * 2 + 1, none⟩ = some (.int .i64 l[j].2) := c1
      generalize l[j].1 = p1 at *
      generalize l[j].2 = p2 at *
      clear hc hlm hbl hm3 ht3 hij
      go_wp2_with fail
      go_still_tail 11, (by kernel_rfl)
      change wpList _ _ _ _ _ wr.drew
      generalize wr.drew = w2 at *
      go_wp2_with fail
      go_roundw
      case rel =>
        refine ⟨j, _, _, by simp, by omega, ?_, HM3.out, fun a ha => ?_, HBL.out.grown HT3.out.grown HBL.out.size (fun k hk => by injection hk with hk; omega)⟩
        · unfold nPut; split <;> omega
        · simp only [HFD.out a]
          by_cases hap : a = p1
          · simp only [hap, if_true]; rfl
          · simp only [hap, if_false]
            exact HLM.out a ha
      case measure => first | (simp [intOf]; done) | (simp [intOf]; omega)
end Go.Proofs.YtojlldalhhibmaaDoor

namespace Go.Proofs.YtojlldalhhibmaaDoor
open Go Go.RowKit
set_option linter.unusedVariables false

/-- What a sector tells. -/
def tellsO : Option (List UInt8) → Option (Nat × List UInt8)
  | some s => tellsB s
  | none => none
def TlPost (f : SF) (a : Int) (w : World) (e : Ending) (w' : World) : Prop :=
  ∃ (r : Nat × List UInt8) (ok : Bool), e = .returned (.tuple #[recV r, .bool ok]) ∧ tellsO (f a) = (if ok then some r else none) ∧ Below w.heap.size w w'
theorem tl_none {f : SF} {a : Int} (r : Nat × List UInt8) {w w' : World} (h : tellsO (f a) = none) (hb : Below w.heap.size w w') : TlPost f a w (.returned (.tuple #[recV r, .bool false])) w' := ⟨r, false, rfl, h, hb⟩
theorem tl_some {f : SF} {a : Int} (r : Nat × List UInt8) {w w' : World} (h : tellsO (f a) = some r) (hb : Below w.heap.size w w') : TlPost f a w (.returned (.tuple #[recV r, .bool true])) w' := ⟨r, true, rfl, h, hb⟩

theorem tl_blk {W : World} {g : Nat} {t : TypeId} {a b : Value} (h : Blk W g t #[a, b]) (x y : Value) : Blk ((W.setCell ⟨g, 0, none⟩ x).setCell ⟨g, 1, none⟩ y).drew g t #[x, y] := (h.put 0 x).put 1 y
theorem tl_below {B : Nat} {w W : World} (h : Below B w W) {g : Nat} (hg : B ≤ g) (x y : Value) : Below B w ((W.setCell ⟨g, 0, none⟩ x).setCell ⟨g, 1, none⟩ y).drew := ((h.setCell (p := ⟨g, 0, none⟩) hg x).setCell (p := ⟨g, 1, none⟩) hg y).drew
theorem tells_out {f : SF} {a : Int} {s : List UInt8} (hv : f a = some s) : tellsO (f a) = tellsB s := by rw [hv]; rfl
end Go.Proofs.YtojlldalhhibmaaDoor

namespace Go.Proofs.YtojlldalhhibmaaDoor
open Go Go.RowKit
set_option linter.unusedVariables false

/-- Behind i sectors. -/
def mtUp (f : SF) (a : Int) : Nat → Nat × Int × List UInt8
  | 0 => (0, 1, [])
  | i + 1 => mtStep f a (mtUp f a i) (i : Int)
theorem mtOpen_eq (f : SF) (a : Int) : mtOpen f a = mtUp f a 2 := rfl
theorem mtStep_eq (f : SF) (a : Int) (x : Nat × Int × List UInt8) (i : Int) : mtStep f a x i = match tellsO (f (a + i)) with | some (q, t) => if x.1 < q then (q, i, t) else x | none => x := by
  unfold mtStep tellsO
  cases f (a + i) with
  | none => rfl
  | some s => rfl
theorem mtUp_empty (f : SF) (a : Int) : ∀ i, (mtUp f a i).1 = 0 → (mtUp f a i).2.2 = []
  | 0, _ => rfl
  | i + 1, h => by
    have ih := mtUp_empty f a i
    rw [mtUp, mtStep_eq] at h ⊢
    cases ht : tellsO (f (a + (i : Int))) with
    | none => rw [ht] at h; exact ih h
    | some x =>
      obtain ⟨q, t⟩ := x
      rw [ht] at h
      simp only at h ⊢
      by_cases hq : (mtUp f a i).1 < q
      · rw [if_pos hq] at h
        simp only at h
        omega
      · rw [if_neg hq] at h ⊢
        exact ih h
end Go.Proofs.YtojlldalhhibmaaDoor

namespace Go.Proofs.YtojlldalhhibmaaDoor
open Go Go.RowKit
set_option linter.unusedVariables false

end Go.Proofs.YtojlldalhhibmaaDoor

namespace Go.Proofs.YtojlldalhhibmaaDoor
open Go Go.RowKit
set_option linter.unusedVariables false

/-- Behind i of the steps. -/
def dAt (D : Dsk) (x : Int) (b : List UInt8) : Nat → Dsk
  | 0 => D
  | 1 => D.free x
  | 2 => (D.free x).sync
  | 3 => (D.free x).sync.write x b
  | _ => ((D.free x).sync.write x b).sync
theorem dAt_ok {D : Dsk} (h : D.Ok) (x : Int) (b : List UInt8) : ∀ i, (dAt D x b i).Ok
  | 0 => h
  | 1 => h.free x
  | 2 => (h.free x).sync
  | 3 => (h.free x).sync.write x b
  | _ + 4 => ((h.free x).sync.write x b).sync
theorem free_pend (D : Dsk) (x : Int) : (D.free x).pend.length ≤ D.pend.length + 1 := by
  unfold Dsk.free
  split
  · simp [Dsk.put]
  · omega
theorem write_pend (D : Dsk) (x : Int) (b : List UInt8) : (D.write x b).pend.length ≤ D.pend.length + 1 := by
  unfold Dsk.write
  split
  · simp [Dsk.put]
  · omega
theorem dAt_pend (D : Dsk) (x : Int) (b : List UInt8) : ∀ i, (dAt D x b i).pend.length ≤ D.pend.length + 1
  | 0 => Nat.le_succ _
  | 1 => free_pend D x
  | 2 => Nat.zero_le _
  | 3 => by have := write_pend (D.free x).sync x b; have e : (D.free x).sync.pend.length = 0 := rfl; show ((D.free x).sync.write x b).pend.length ≤ _; omega
  | _ + 4 => Nat.zero_le _
section
variable {D : Dsk} {a : Int} {num : Nat} {last : Int} {body : List UInt8} {k : Int}
theorem mtSteps_long (h : 480 < body.length) : mtSteps D a num last body k = ⟨D, num, last, false, 120⟩ := by unfold mtSteps; rw [if_pos h]
theorem mtSteps_stop {i : Nat} (h : ¬ 480 < body.length) (h3 : i ≤ 3) (hk : k ≤ (i : Int)) (hi : i = 0 ∨ (i : Int) ≤ k) (hw : 3 ≤ i → (dAt D (a + (1 - last)) (recB ((num + 1) % U64) body) 2).why (a + (1 - last)) (recB ((num + 1) % U64) body) = 0) :
    mtSteps D a num last body k = ⟨dAt D (a + (1 - last)) (recB ((num + 1) % U64) body) i, num, last, false, 0⟩ := by
  unfold mtSteps
  rw [if_neg h]
  match i, h3 with
  | 0, _ => rw [if_pos (by omega)]; rfl
  | 1, _ => rw [if_neg (by omega), if_pos (by omega)]; rfl
  | 2, _ => rw [if_neg (by omega), if_neg (by omega), if_pos (by omega)]; rfl
  | 3, _ => rw [if_neg (by omega), if_neg (by omega), if_neg (by omega), if_neg (fun h => h (hw (by omega))), if_pos (by omega)]; rfl
theorem mtSteps_err (h : ¬ 480 < body.length) (hk : 2 < k) (hw : (dAt D (a + (1 - last)) (recB ((num + 1) % U64) body) 2).why (a + (1 - last)) (recB ((num + 1) % U64) body) ≠ 0) :
    mtSteps D a num last body k = ⟨dAt D (a + (1 - last)) (recB ((num + 1) % U64) body) 2, num, last, false, (dAt D (a + (1 - last)) (recB ((num + 1) % U64) body) 2).why (a + (1 - last)) (recB ((num + 1) % U64) body)⟩ := by
  unfold mtSteps
  rw [if_neg h, if_neg (by omega), if_neg (by omega), if_neg (by omega)]
  exact if_pos hw
theorem mtSteps_done (h : ¬ 480 < body.length) (hk : 3 < k) (hw : (dAt D (a + (1 - last)) (recB ((num + 1) % U64) body) 2).why (a + (1 - last)) (recB ((num + 1) % U64) body) = 0) :
    mtSteps D a num last body k = ⟨dAt D (a + (1 - last)) (recB ((num + 1) % U64) body) 4, (num + 1) % U64, 1 - last, true, 0⟩ := by
  unfold mtSteps
  rw [if_neg h, if_neg (by omega), if_neg (by omega), if_neg (by omega), if_neg (fun h => h hw), if_neg (by omega)]
  rfl
end
/-- A block of yet another kind turned. -/
theorem Dk.other {w w' : World} {h : Zn} {D : Dsk} (d : Dk w h D) {z : Nat} {t : TypeId} (hz : kindAt w z = some (some t)) (ht : t ∉ [49, 78, 3, 52, 5]) (hg : w.grownBy w' (some z)) : Dk w' h D := by
  simp only [List.mem_cons, List.not_mem_nil, or_false, not_or] at ht
  obtain ⟨t1, t2, t3, t4, t5⟩ := ht
  obtain ⟨vs, h1, h2⟩ := d.pend
  have ne : ∀ {b : Nat} {k : Option TypeId}, kindAt w b = some k → k ≠ some t → b ≠ z := fun hb hk e => by subst e; rw [hz] at hb; injection hb with hb; exact hk hb.symm
  refine ⟨d.blk.grown hg (fun e => ?_), d.view.other (ne d.view.kind (by simp)) (by rw [hz]; simpa using t5) hg, d.ground.other (ne d.ground.kind (by simp)) (by rw [hz]; simpa using t5) hg, d.ne, vs, h1.other (fun e => ?_) hg, h2.keep fun v p hp => hp.other (fun s hs => ?_) hg⟩
  · injection e with e
    subst e
    have := kind_blk d.blk
    rw [hz] at this
    injection this with this
    injection this with this
    exact t1 this
  · have := kind_own h1 e
    rw [hz] at this
    injection this with this
    injection this with this
    exact t2 this
  · rw [hz]
    intro e
    injection e with e
    injection e with e
    subst e
    simp only [pnKinds, List.mem_cons, List.not_mem_nil, or_false] at hs
    rcases hs with h | h | h
    · exact t3 h
    · exact t4 h
    · exact t5 h
/-- A call on the meta page: the disk, the page's own block. -/
structure Mtp (h : Zn) (gm : Nat) (w : World) (h' : Zn) (w' : World) : Prop where
  g : h'.g = h.g
  turn : Turn (fun b => h.has b ∨ b = gm) w w'
  has : ∀ b, h'.has b → h.has b ∨ w.heap.size ≤ b
theorem Mtp.of_stp {h h' : Zn} {g : Nat} {w w' : World} (s : Stp h w h' w') : Mtp h g w h' w' := ⟨s.g, s.turn.mono fun b hb _ => .inl hb, s.has⟩
end Go.Proofs.YtojlldalhhibmaaDoor

namespace Go.Proofs.YtojlldalhhibmaaDoor
open Go Go.RowKit
set_option linter.unusedVariables false

end Go.Proofs.YtojlldalhhibmaaDoor

namespace Go.Proofs.YtojlldalhhibmaaDoor
open Go
set_option linter.unusedVariables false

theorem tellsB_pos {s : List UInt8} {q : Nat} {t : List UInt8} (h : tellsB s = some (q, t)) : 0 < q := by
  unfold tellsB at h
  split at h
  · split at h
    · rename_i hc
      injection h with h
      injection h with h1 h2
      omega
    · cases h
  · cases h
theorem tellsO_pos {o : Option (List UInt8)} {q : Nat} {t : List UInt8} (h : tellsO o = some (q, t)) : 0 < q := by
  cases o with
  | none => cases h
  | some s => exact tellsB_pos h
theorem tells_rec {q : Nat} {t : List UInt8} (hq : q < U64) (hq0 : 0 < q) (ht : t.length ≤ 32768) : tellsB (recB q t) = some (q, t) := by
  have := recGet_put hq ht []
  rw [List.append_nil] at this
  unfold tellsB
  rw [this]
  exact if_pos ⟨rfl, hq0⟩
theorem tells_torn {q : Nat} {t : List UInt8} (hq : q < U64) (hq0 : 0 < q) (ht : t.length ≤ 32768) (n : Int) : tellsB (tornB (recB q t) [] n) = none ∨ tornB (recB q t) [] n = recB q t := by
  unfold tornB
  by_cases h : n.toNat < (recB q t).length
  · left
    rw [if_pos h, List.drop_nil, List.append_nil]
    unfold tellsB
    rw [recGet_cut hq ht h]
  · right
    rw [if_neg h]
theorem recB_short {q : Nat} {t : List UInt8} (hq : q < U64) (ht : t.length ≤ 480) : (recB q t).length ≤ 512 := by
  have h1 := varB_le10 hq
  have h2 := varB_le 1 t.length (by omega)
  rw [recB_len]
  unfold recF
  rw [List.length_append, List.length_append]
  omega

/-- What the page tells: two sectors alone are in use. -/
structure Mi (f : SF) (a : Int) (num : Nat) (last : Int) (body : List UInt8) : Prop where
  only : ∀ x, (f x).isSome = true → x = a ∨ x = a + 1
  l01 : last = 0 ∨ last = 1
  zero : num = 0 → last = 1 ∧ body = [] ∧ tellsO (f (a + last)) = none ∧ tellsO (f (a + (1 - last))) = none
  pos : 0 < num → tellsO (f (a + last)) = some (num, body) ∧ ∀ q t, tellsO (f (a + (1 - last))) = some (q, t) → q < num
section
variable {f : SF} {a : Int} {num : Nat} {last : Int} {body : List UInt8}
theorem Mi.start (a : Int) : Mi (fun _ => none) a 0 1 [] := ⟨fun _ h => (by cases h), .inr rfl, fun _ => ⟨rfl, rfl, rfl, rfl⟩, fun h => absurd h (by omega)⟩
theorem Mi.open (h : Mi f a num last body) : mtOpen f a = (num, last, body) := by
  rw [mtOpen_eq, mtUp, mtUp, mtUp, mtStep_eq, mtStep_eq]
  rw [show a + ((0 : Nat) : Int) = a + 0 by simp, show a + ((0 + 1 : Nat) : Int) = a + 1 by simp]
  rcases Nat.eq_zero_or_pos num with h0 | h0
  · obtain ⟨rfl, rfl, h1, h2⟩ := h.zero h0
    rw [show a + (1 - 1 : Int) = a + 0 by omega] at h2
    rw [h1, h2]
    subst h0
    rfl
  · obtain ⟨h1, h2⟩ := h.pos h0
    rcases h.l01 with rfl | rfl
    · rw [show a + (1 - 0 : Int) = a + 1 by omega] at h2
      rw [h1]
      simp only
      rw [if_pos h0]
      cases ht : tellsO (f (a + 1)) with
      | none => rfl
      | some y =>
        obtain ⟨q, t⟩ := y
        have := h2 q t ht
        simp only
        rw [if_neg (by omega)]
        rfl
    · rw [show a + (1 - 1 : Int) = a + 0 by omega] at h2
      rw [h1]
      cases ht : tellsO (f (a + 0)) with
      | none => simp only; rw [if_pos h0]; rfl
      | some y =>
        obtain ⟨q, t⟩ := y
        have h3 := h2 q t ht
        have h4 := tellsO_pos ht
        simp only
        rw [if_pos h4]
        simp only
        rw [if_pos h3]
        rfl
theorem ne_of_l01 (h : last = 0 ∨ last = 1) : a + last ≠ a + (1 - last) := by omega
theorem Mi.del (h : Mi f a num last body) : Mi (f.del (a + (1 - last))) a num last body := by
  have hne := ne_of_l01 (a := a) h.l01
  have e1 : (f.del (a + (1 - last))) (a + last) = f (a + last) := if_neg hne
  have e2 : (f.del (a + (1 - last))) (a + (1 - last)) = none := if_pos rfl
  refine ⟨fun x hx => ?_, h.l01, fun h0 => ?_, fun h0 => ?_⟩
  · unfold SF.del at hx
    split at hx
    · cases hx
    · exact h.only x hx
  · obtain ⟨h1, h2, h3, h4⟩ := h.zero h0
    rw [e1, e2]
    exact ⟨h1, h2, h3, rfl⟩
  · rw [e1, e2]
    exact ⟨(h.pos h0).1, fun q t hq => by cases hq⟩
theorem Mi.put_only (h : Mi f a num last body) (b : List UInt8) : ∀ x, ((f.put (a + (1 - last)) b) x).isSome = true → x = a ∨ x = a + 1 := by
  intro x hx
  unfold SF.put at hx
  split at hx
  · have := h.l01; omega
  · exact h.only x hx
theorem Mi.put_none (h : Mi f a num last body) {b : List UInt8} (hb : tellsB b = none) : Mi (f.put (a + (1 - last)) b) a num last body := by
  have hne := ne_of_l01 (a := a) h.l01
  have e1 : (f.put (a + (1 - last)) b) (a + last) = f (a + last) := if_neg hne
  have e2 : (f.put (a + (1 - last)) b) (a + (1 - last)) = some b := if_pos rfl
  refine ⟨h.put_only b, h.l01, fun h0 => ?_, fun h0 => ?_⟩
  · obtain ⟨h1, h2, h3, h4⟩ := h.zero h0
    rw [e1, e2]
    exact ⟨h1, h2, h3, hb⟩
  · rw [e1, e2]
    exact ⟨(h.pos h0).1, fun q t hq => by have : tellsO (some b) = none := hb; rw [this] at hq; cases hq⟩
theorem Mi.put_new (h : Mi f a num last body) {b t : List UInt8} (hb : tellsB b = some (num + 1, t)) : Mi (f.put (a + (1 - last)) b) a (num + 1) (1 - last) t := by
  have hne := ne_of_l01 (a := a) h.l01
  have e1 : (f.put (a + (1 - last)) b) (a + last) = f (a + last) := if_neg hne
  have e2 : (f.put (a + (1 - last)) b) (a + (1 - last)) = some b := if_pos rfl
  refine ⟨h.put_only b, by have := h.l01; omega, fun h0 => by omega, fun _ => ?_⟩
  rw [show 1 - (1 - last) = last by omega, e1, e2]
  refine ⟨hb, fun q t' hq => ?_⟩
  rcases Nat.eq_zero_or_pos num with h0 | h0
  · rw [(h.zero h0).2.2.1] at hq; cases hq
  · rw [(h.pos h0).1] at hq
    injection hq with hq
    injection hq with hq
    omega
end
theorem two_le {p q : Int} : ∀ (l : List Int), l.Nodup → (∀ x ∈ l, x = p ∨ x = q) → l.length ≤ 2
  | [], _, _ => by simp
  | [_], _, _ => by simp
  | [_, _], _, _ => by simp
  | x :: y :: z :: r, hn, h => by
    have h1 := h x (by simp)
    have h2 := h y (by simp)
    have h3 := h z (by simp)
    simp only [List.nodup_cons, List.mem_cons, not_or] at hn
    omega
theorem FinK.two {f : SF} {n : Nat} (h : FinK f n) {a : Int} (ho : ∀ x, (f x).isSome = true → x = a ∨ x = a + 1) : n ≤ 2 := by
  obtain ⟨l, h1, _⟩ := h
  have := two_le (l.map (·.1)) h1.nodup fun x hx => ho x ((h1.has x).2 hx)
  rw [List.length_map, h1.len] at this
  exact this

/-- Nothing is pending. -/
structure Mr (D : Dsk) (a : Int) (num : Nat) (last : Int) (body : List UInt8) : Prop where
  pend : D.pend = []
  ground : D.ground = D.view
  ng : D.ng = D.nv
  mi : Mi D.view a num last body
  ok : D.Ok
  a0 : 0 ≤ a
  a1 : a + 1 < D.size
  lim : 2 < D.limit
section
variable {D : Dsk} {a : Int} {num : Nat} {last : Int} {body t : List UInt8}
theorem Mr.nv (h : Mr D a num last body) : D.nv ≤ 2 := h.ok.view.two h.mi.only
theorem Mr.start {n : Int} (hn : 3 ≤ n) (hn2 : n ≤ 65536) (h0 : 0 ≤ a) (h1 : a + 1 < n) : Mr (Dsk.new n) a 0 1 [] := ⟨rfl, rfl, rfl, Mi.start a, Dsk.Ok.new (by omega) hn2, h0, h1, by simp [Dsk.new]; omega⟩
theorem free_view (D : Dsk) (x : Int) : (D.free x).view = D.view.del x := by
  unfold Dsk.free
  split
  · rfl
  · rename_i hs
    funext y
    unfold SF.del
    split
    · subst y
      cases hv : D.view x with
      | none => rfl
      | some _ => rw [hv] at hs; simp at hs
    · rfl
theorem free_same (D : Dsk) (x : Int) : (D.free x).ground = D.ground ∧ (D.free x).ng = D.ng ∧ (D.free x).size = D.size ∧ (D.free x).limit = D.limit := by
  unfold Dsk.free
  split
  · exact ⟨rfl, rfl, rfl, rfl⟩
  · exact ⟨rfl, rfl, rfl, rfl⟩
/-- Freed and synced. -/
theorem Mr.two (h : Mr D a num last body) : Mr (D.free (a + (1 - last))).sync a num last body := by
  have hs := free_same D (a + (1 - last))
  refine ⟨rfl, rfl, rfl, ?_, (h.ok.free _).sync, h.a0, ?_, ?_⟩
  · show Mi (D.free (a + (1 - last))).view a num last body
    rw [free_view]
    exact h.mi.del
  · show a + 1 < (D.free (a + (1 - last))).size
    rw [hs.2.2.1]
    exact h.a1
  · show 2 < (D.free (a + (1 - last))).limit
    rw [hs.2.2.2]
    exact h.lim
theorem Mr.why (h : Mr D a num last body) {b : List UInt8} (hb : b.length ≤ 512) : D.why (a + (1 - last)) b = 0 := by
  unfold Dsk.why
  have h1 := h.nv
  have h2 := h.lim
  have h3 := h.a1
  have h4 := h.a0
  have h5 := h.mi.l01
  rw [if_neg (by omega), if_neg (by omega), if_neg (fun hh => by have := hh.2; omega)]
/-- What is put in the ground and the view. -/
theorem Mr.put (h : Mr D a num last body) {b : List UInt8} (hb : b.length ≤ 512) {num' : Nat} {last' : Int} (hm : Mi (D.view.put (a + (1 - last)) b) a num' last' t) {D' : Dsk} (h1 : D'.pend = []) (h2 : D'.ground = D'.view) (h3 : D'.ng = D'.nv) (h4 : D'.view = D.view.put (a + (1 - last)) b) (h5 : D'.Ok) (h6 : D'.size = D.size) (h7 : D'.limit = D.limit) : Mr D' a num' last' t :=
  ⟨h1, h2, h3, by rw [h4]; exact hm, h5, h.a0, by rw [h6]; exact h.a1, by rw [h7]; exact h.lim⟩
theorem write_view {x : Int} {b : List UInt8} (hw : D.why x b = 0) : D.write x b = D.put (.wr x b) b.length := by unfold Dsk.write; rw [if_pos hw]
theorem put_view (D : Dsk) (x : Int) (b : List UInt8) : (D.put (.wr x b) b.length).view = D.view.put x b := by
  show (doP (D.view, D.nv) (.wr x b) b.length).1 = _
  unfold doP
  simp only
  rw [tornB_all]
/-- Behind i steps, and a crash. -/
theorem Mr.crash (h : Mr D a num last body) (hn : num + 1 < U64) (ht : t.length ≤ 480) (l : List (Int × Int)) : ∀ i, i ≤ 4 →
    (i ≤ 3 ∧ Mr ((dAt D (a + (1 - last)) (recB (num + 1) t) i).crash l) a num last body) ∨ (3 ≤ i ∧ Mr ((dAt D (a + (1 - last)) (recB (num + 1) t) i).crash l) a (num + 1) (1 - last) t) := by
  have hb := recB_short hn ht
  have hx0 : (D.free (a + (1 - last))).sync.view (a + (1 - last)) = none := by
    show (D.free (a + (1 - last))).view _ = none
    rw [free_view]
    exact if_pos rfl
  have hw := h.two.why hb
  have hok := dAt_ok h.ok (a + (1 - last)) (recB (num + 1) t)
  intro i hi
  have hc := (hok i).crash l
  match i, hi with
  | 0, _ =>
    left
    refine ⟨by omega, ?_⟩
    have e : crashF l 0 (dAt D (a + (1 - last)) (recB (num + 1) t) 0).pend (D.ground, D.ng) = (D.ground, D.ng) := by
      show crashF l 0 D.pend _ = _
      rw [h.pend]; rfl
    refine ⟨rfl, rfl, rfl, ?_, hc, h.a0, h.a1, h.lim⟩
    show Mi (crashF l 0 D.pend (D.ground, D.ng)).1 a num last body
    rw [show crashF l 0 D.pend (D.ground, D.ng) = (D.ground, D.ng) from e, h.ground]
    exact h.mi
  | 1, _ =>
    left
    refine ⟨by omega, ?_⟩
    have hs := free_same D (a + (1 - last))
    refine ⟨rfl, rfl, rfl, ?_, hc, h.a0, ?_, ?_⟩
    · show Mi (crashF l 0 (D.free (a + (1 - last))).pend ((D.free (a + (1 - last))).ground, (D.free (a + (1 - last))).ng)).1 a num last body
      rw [hs.1, hs.2.1, h.ground]
      unfold Dsk.free
      split
      · show Mi (crashF l 0 (D.pend ++ [.fr (a + (1 - last))]) (D.view, D.ng)).1 a num last body
        rw [h.pend]
        show Mi (match keptN l 0 with | some n => doP (D.view, D.ng) (.fr (a + (1 - last))) n | none => (D.view, D.ng)).1 a num last body
        cases keptN l 0 with
        | none => exact h.mi
        | some n => exact h.mi.del
      · rw [h.pend]
        exact h.mi
    · show a + 1 < (D.free (a + (1 - last))).size
      rw [hs.2.2.1]; exact h.a1
    · show 2 < (D.free (a + (1 - last))).limit
      rw [hs.2.2.2]; exact h.lim
  | 2, _ =>
    left
    refine ⟨by omega, ?_⟩
    have h2 := h.two
    exact ⟨rfl, rfl, rfl, h2.mi, hc, h.a0, h2.a1, h2.lim⟩
  | 3, _ =>
    have h2 := h.two
    have hc3 : ((D.free (a + (1 - last))).sync.write (a + (1 - last)) (recB (num + 1) t)).crash l = (((D.free (a + (1 - last))).sync.put (.wr (a + (1 - last)) (recB (num + 1) t)) (recB (num + 1) t).length).crash l) := by rw [write_view hw]
    have hc' := hc
    rw [show dAt D (a + (1 - last)) (recB (num + 1) t) 3 = (D.free (a + (1 - last))).sync.write (a + (1 - last)) (recB (num + 1) t) from rfl] at hc' ⊢
    rw [hc3] at hc' ⊢
    have hgr : crashF l 0 ((D.free (a + (1 - last))).sync.put (.wr (a + (1 - last)) (recB (num + 1) t)) (recB (num + 1) t).length).pend ((D.free (a + (1 - last))).sync.view, (D.free (a + (1 - last))).sync.nv) =
        match keptN l 0 with | some n => doP ((D.free (a + (1 - last))).sync.view, (D.free (a + (1 - last))).sync.nv) (.wr (a + (1 - last)) (recB (num + 1) t)) n | none => ((D.free (a + (1 - last))).sync.view, (D.free (a + (1 - last))).sync.nv) := rfl
    cases hk : keptN l 0 with
    | none =>
      rw [hk] at hgr
      left
      refine ⟨by omega, rfl, rfl, rfl, ?_, hc', h.a0, h2.a1, h2.lim⟩
      show Mi (crashF l 0 _ _).1 a num last body
      rw [show crashF l 0 ((D.free (a + (1 - last))).sync.put (.wr (a + (1 - last)) (recB (num + 1) t)) (recB (num + 1) t).length).pend (((D.free (a + (1 - last))).sync.put (.wr (a + (1 - last)) (recB (num + 1) t)) (recB (num + 1) t).length).ground, ((D.free (a + (1 - last))).sync.put (.wr (a + (1 - last)) (recB (num + 1) t)) (recB (num + 1) t).length).ng) = _ from hgr]
      exact h2.mi
    | some n =>
      rw [hk] at hgr
      have hv : (((D.free (a + (1 - last))).sync.put (.wr (a + (1 - last)) (recB (num + 1) t)) (recB (num + 1) t).length).crash l).view = (D.free (a + (1 - last))).sync.view.put (a + (1 - last)) (tornB (recB (num + 1) t) [] n) := by
        show (crashF l 0 _ _).1 = _
        rw [show crashF l 0 ((D.free (a + (1 - last))).sync.put (.wr (a + (1 - last)) (recB (num + 1) t)) (recB (num + 1) t).length).pend (((D.free (a + (1 - last))).sync.put (.wr (a + (1 - last)) (recB (num + 1) t)) (recB (num + 1) t).length).ground, ((D.free (a + (1 - last))).sync.put (.wr (a + (1 - last)) (recB (num + 1) t)) (recB (num + 1) t).length).ng) = _ from hgr]
        unfold doP
        simp only
        rw [hx0]
        rfl
      rcases tells_torn hn (Nat.succ_pos num) (by omega) n (t := t) with h3 | h3
      · left
        exact ⟨by omega, rfl, rfl, rfl, by rw [hv]; exact h2.mi.put_none h3, hc', h.a0, h2.a1, h2.lim⟩
      · right
        exact ⟨by omega, rfl, rfl, rfl, by rw [hv, h3]; exact h2.mi.put_new (tells_rec hn (Nat.succ_pos num) (by omega)), hc', h.a0, h2.a1, h2.lim⟩
  | 4, _ =>
    right
    have h2 := h.two
    have hs : ((D.free (a + (1 - last))).sync.write (a + (1 - last)) (recB (num + 1) t)) = (D.free (a + (1 - last))).sync.put (.wr (a + (1 - last)) (recB (num + 1) t)) (recB (num + 1) t).length := write_view hw
    have hc' := hc
    rw [show dAt D (a + (1 - last)) (recB (num + 1) t) 4 = ((D.free (a + (1 - last))).sync.write (a + (1 - last)) (recB (num + 1) t)).sync from rfl] at hc' ⊢
    rw [hs] at hc' ⊢
    refine ⟨by omega, rfl, rfl, rfl, ?_, hc', h.a0, h2.a1, h2.lim⟩
    show Mi ((D.free (a + (1 - last))).sync.put (.wr (a + (1 - last)) (recB (num + 1) t)) (recB (num + 1) t).length).view a (num + 1) (1 - last) t
    rw [put_view]
    exact h2.mi.put_new (tells_rec hn (Nat.succ_pos num) (by omega))
/-- A crash behind three steps, where the write wasn't kept; where all of it was. -/
theorem Mr.crash3 (h : Mr D a num last body) (hn : num + 1 < U64) (ht : t.length ≤ 480) (l : List (Int × Int)) :
    (keptN l 0 = none → Mr ((dAt D (a + (1 - last)) (recB (num + 1) t) 3).crash l) a num last body) ∧
    ∀ n, keptN l 0 = some n → (recB (num + 1) t).length ≤ n.toNat → Mr ((dAt D (a + (1 - last)) (recB (num + 1) t) 3).crash l) a (num + 1) (1 - last) t := by
  have hb := recB_short hn ht
  have hw := h.two.why hb
  have h2 := h.two
  have hc' := (dAt_ok h.ok (a + (1 - last)) (recB (num + 1) t) 3).crash l
  rw [show dAt D (a + (1 - last)) (recB (num + 1) t) 3 = (D.free (a + (1 - last))).sync.write (a + (1 - last)) (recB (num + 1) t) from rfl, write_view hw] at hc' ⊢
  have hgr : crashF l 0 ((D.free (a + (1 - last))).sync.put (.wr (a + (1 - last)) (recB (num + 1) t)) (recB (num + 1) t).length).pend ((D.free (a + (1 - last))).sync.view, (D.free (a + (1 - last))).sync.nv) =
      match keptN l 0 with | some n => doP ((D.free (a + (1 - last))).sync.view, (D.free (a + (1 - last))).sync.nv) (.wr (a + (1 - last)) (recB (num + 1) t)) n | none => ((D.free (a + (1 - last))).sync.view, (D.free (a + (1 - last))).sync.nv) := rfl
  refine ⟨fun hk => ?_, fun n hk hln => ?_⟩
  · rw [hk] at hgr
    refine ⟨rfl, rfl, rfl, ?_, hc', h.a0, h2.a1, h2.lim⟩
    show Mi (crashF l 0 _ _).1 a num last body
    rw [show crashF l 0 ((D.free (a + (1 - last))).sync.put (.wr (a + (1 - last)) (recB (num + 1) t)) (recB (num + 1) t).length).pend (((D.free (a + (1 - last))).sync.put (.wr (a + (1 - last)) (recB (num + 1) t)) (recB (num + 1) t).length).ground, ((D.free (a + (1 - last))).sync.put (.wr (a + (1 - last)) (recB (num + 1) t)) (recB (num + 1) t).length).ng) = _ from hgr]
    exact h2.mi
  · rw [hk] at hgr
    have hv : (((D.free (a + (1 - last))).sync.put (.wr (a + (1 - last)) (recB (num + 1) t)) (recB (num + 1) t).length).crash l).view = (D.free (a + (1 - last))).sync.view.put (a + (1 - last)) (recB (num + 1) t) := by
      show (crashF l 0 _ _).1 = _
      rw [show crashF l 0 ((D.free (a + (1 - last))).sync.put (.wr (a + (1 - last)) (recB (num + 1) t)) (recB (num + 1) t).length).pend (((D.free (a + (1 - last))).sync.put (.wr (a + (1 - last)) (recB (num + 1) t)) (recB (num + 1) t).length).ground, ((D.free (a + (1 - last))).sync.put (.wr (a + (1 - last)) (recB (num + 1) t)) (recB (num + 1) t).length).ng) = _ from hgr]
      unfold doP
      simp only
      unfold tornB
      rw [if_neg (by omega)]
    exact ⟨rfl, rfl, rfl, by rw [hv]; exact h2.mi.put_new (tells_rec hn (Nat.succ_pos num) (by omega)), hc', h.a0, h2.a1, h2.lim⟩
/-- All steps done. -/
theorem Mr.done (h : Mr D a num last body) (hn : num + 1 < U64) (ht : t.length ≤ 480) : Mr (dAt D (a + (1 - last)) (recB (num + 1) t) 4) a (num + 1) (1 - last) t := by
  have hb := recB_short hn ht
  have hw := h.two.why hb
  have h2 := h.two
  have hs : ((D.free (a + (1 - last))).sync.write (a + (1 - last)) (recB (num + 1) t)) = (D.free (a + (1 - last))).sync.put (.wr (a + (1 - last)) (recB (num + 1) t)) (recB (num + 1) t).length := write_view hw
  have hok := dAt_ok h.ok (a + (1 - last)) (recB (num + 1) t) 4
  rw [show dAt D (a + (1 - last)) (recB (num + 1) t) 4 = ((D.free (a + (1 - last))).sync.write (a + (1 - last)) (recB (num + 1) t)).sync from rfl] at hok ⊢
  rw [hs] at hok ⊢
  refine ⟨rfl, rfl, rfl, ?_, hok, h.a0, h2.a1, h2.lim⟩
  show Mi ((D.free (a + (1 - last))).sync.put (.wr (a + (1 - last)) (recB (num + 1) t)) (recB (num + 1) t).length).view a (num + 1) (1 - last) t
  rw [put_view]
  exact h2.mi.put_new (tells_rec hn (Nat.succ_pos num) (by omega))
/-- How far the steps come. -/
def stepI (k : Int) : Nat := if k < 1 then 0 else if k < 2 then 1 else if k < 3 then 2 else if k < 4 then 3 else 4
theorem stepI_le (k : Int) : stepI k ≤ 4 := by unfold stepI; split <;> (try split) <;> (try split) <;> (try split) <;> omega
theorem Mr.steps (h : Mr D a num last body) (hn : num + 1 < U64) (ht : t.length ≤ 480) (k : Int) :
    mtSteps D a num last t k = ⟨dAt D (a + (1 - last)) (recB (num + 1) t) (stepI k), if stepI k = 4 then num + 1 else num, if stepI k = 4 then 1 - last else last, decide (stepI k = 4), 0⟩ := by
  have hb := recB_short hn ht
  have hw := h.two.why hb
  have e : (num + 1) % U64 = num + 1 := Nat.mod_eq_of_lt hn
  unfold mtSteps
  rw [if_neg (by omega), e]
  unfold stepI
  by_cases h1 : k < 1
  · rw [if_pos h1, if_pos h1]; rfl
  · rw [if_neg h1, if_neg h1]
    by_cases h2 : k < 2
    · rw [if_pos h2, if_pos h2]; rfl
    · rw [if_neg h2, if_neg h2]
      by_cases h3 : k < 3
      · rw [if_pos h3, if_pos h3]; rfl
      · rw [if_neg h3, if_neg h3, if_neg (fun hh => hh hw)]
        by_cases h4 : k < 4
        · rw [if_pos h4, if_pos h4]; rfl
        · rw [if_neg h4, if_neg h4]; rfl
end
end Go.Proofs.YtojlldalhhibmaaDoor
