/- What the proof of WalPlays needs, part 6. -/
import Derived.Test.YtojlldalhhibmaaGreatDoorWalPlaysJ5
import Derived.BigQuiet
import Derived.Deep.QuietTactic
import Derived.Deep.RegionLaw

namespace Go.Proofs.YtojlldalhhibmaaGreatDoor
open Go Go.RowKit
set_option linter.unusedVariables false

theorem recGet_lt' {l : List UInt8} {q : Nat} {t : List UInt8} {n : Nat} (h : recGet l = some ((q, t), n)) : q < U64 := by
  unfold recGet at h
  split at h
  · cases h
  · split at h
    · cases h
    · rename_i f hf
      have := (rdNum_le f (e := 0) (by omega)).1
      split at h
      · simp only [Option.some.injEq, Prod.mk.injEq] at h
        rw [← h.1.1]
        exact this
      · cases h
/-- What was found, in memory: its cells, and the slice of its records. -/
def fdC (x : Fd × Value) : List Value := [.int .i64 (x.1.at' : Int), .int .u64 (x.1.base : Int), .int .u64 (x.1.recs.length : Int), x.2]
def fcs (l : List (Fd × Value)) : List Value := l.flatMap fdC
theorem fcs_len (l : List (Fd × Value)) : (fcs l).length = l.length * 4 := by
  induction l with
  | nil => rfl
  | cons x xs ih => simp only [fcs, List.flatMap_cons, List.length_append] at ih ⊢; rw [ih]; simp [fdC]; omega
theorem fcs_snoc (l : List (Fd × Value)) (x : Fd × Value) : fcs (l ++ [x]) = fcs l ++ fdC x := by simp [fcs]
abbrev Rr (w : World) (v : Value) (rs : List Rcd) : Prop := KSl 71 2 w v rs.length (rcs rs)
structure Fs (w : World) (B : Nat) (v : Value) (L : List (Fd × Value)) : Prop where
  own : w.ownsRow B 81 4 v L.length (fcs L)
  recs : ∀ x ∈ L, Rr w x.2 x.1.recs ∧ x.1.recs.length ≤ 40000
theorem own_later {e : TypeId} {size n B : Nat} {w w' : World} {v : Value} {xs : List Value} (h : w.ownsRow B e size v n xs) (hb : Below w.heap.size w w') : w'.ownsRow B e size v n xs := by
  obtain ⟨h1, h2⟩ := h
  refine ⟨h1, ?_⟩
  rcases h2 with h2 | ⟨g, cap, cur, hv, hg, hh, r⟩
  · exact .inl h2
  · exact .inr ⟨g, cap, cur, hv, hg, (hb.block g (lt_of_block hh)).trans hh, r⟩
theorem Fs.later {w w' : World} {B : Nat} {v : Value} {L : List (Fd × Value)} (h : Fs w B v L) (hb : Below w.heap.size w w') : Fs w' B v L :=
  ⟨own_later h.own hb, fun x hx => ⟨KSl.later (h.recs x hx).1 hb, (h.recs x hx).2⟩⟩
theorem elemFd : Elem Tryz.prog 76 81 (.agg #[.int .i64 0, .int .u64 0, .int .u64 0, .slice none 0 0]) 4 48 := Elem.mk' Tryz.underlying76 (by kernel_rfl) rfl (by omega)
theorem fdC_one {x : Fd × Value} (h : ∃ A k c, x.2 = .slice A k c) : ∀ y ∈ fdC x, y.oneCell' = true := by
  obtain ⟨A, k, c, h⟩ := h
  intro y hy
  simp only [fdC, List.mem_cons, List.not_mem_nil, or_false] at hy
  rcases hy with rfl | rfl | rfl | rfl
  · rfl
  · rfl
  · rfl
  · rw [h]; rfl
theorem Sl.newfd (w : World) (x : Fd × Value) {g : Nat} (hg : g = w.heap.size) : Sl (fun _ => True) (w.alloc (.cells (fdC x).toArray 81)) 4 (.slice (some ⟨g, 0, none⟩) 1 1) 1 (fdC x) := by
  have := KSl.new w 81 4 (by omega) (fdC x).toArray 1 (by omega) (by simp [maxLen]) (by simp [fdC]) hg
  rw [List.toList_toArray] at this
  exact Sl.more this fun _ _ => trivial
theorem Fs.snoc {w w' : World} {B : Nat} {v v' : Value} {L : List (Fd × Value)} {x : Fd × Value} (h : Fs w B v L) (hown : w'.ownsRow B 81 4 v' (L.length + 1) (fcs L ++ fdC x)) (hs : SameK [some 71] w w') (hx : Rr w' x.2 x.1.recs) (hl : x.1.recs.length ≤ 40000) : Fs w' B v' (L ++ [x]) := by
  refine ⟨by rw [List.length_append, fcs_snoc]; exact hown, fun y hy => ?_⟩
  rw [List.mem_append, List.mem_singleton] at hy
  rcases hy with hy | rfl
  · exact ⟨KSl.same (h.recs y hy).1 hs (by decide), (h.recs y hy).2⟩
  · exact ⟨hx, hl⟩
theorem SameK.grown {ks : List (Option TypeId)} {w w' : World} {row : Option Nat} (hg : w.grownBy w' row) (hr : ∀ z t, row = some z → kindAt w z = some t → t ∉ ks) : SameK ks w w' := fun b t ht hk =>
  hg.block b (kind_lt hk) fun e => hr b t e.symm hk ht
theorem recScan_len : ∀ (k : Nat) (l : List UInt8) (f : Nat), (recScan k l f).1.length ≤ k
  | 0, l, f => by simp [recScan]
  | k + 1, l, f => by
    cases hg : recGet l with
    | none => rw [recScan_none hg]; simp
    | some r =>
      obtain ⟨r, n⟩ := r
      by_cases hq : r.1 = f % U64
      · rw [recScan_some hg hq]
        have := recScan_len k (l.drop n) (f + 1)
        simp only [List.length_cons]
        omega
      · rw [recScan_other hg hq]; simp
theorem ro_len {w : World} {B : Nat} {v : Value} {rs : List Rcd} (h : Ro w B v rs) : rs.length < U64 := by
  obtain ⟨_, A, c, _, h3, h4, _⟩ := Sl.of_own (by omega) h
  unfold maxLen at h4
  unfold U64
  omega
theorem rscan_eq (S : Nat → Prop) (v0 : Value) (l : List UInt8) (first : Nat) (rr : List Rcd × Nat) (hrr : recScan l.length l first = rr) (w : World) (hl : l.length ≤ 1099511627776) (hf : first < U64) (hr : Bs S w v0 l) :
    Calls Tryz.prog 47 #[v0, .int .u64 first] w fun e w' => ∃ A k c, e = .returned (.tuple #[.slice A k c, .int .i64 (rr.2 : Int)]) ∧ Ro w' w.heap.size (.slice A k c) rr.1 ∧ Below w.heap.size w w' := by
  rw [← hrr]
  exact rscan_any S v0 l first w hl hf hr
structure LkSt (w wr : World) (f : SF) (a : Int) (size i : Nat) (v : Value) (L : List (Fd × Value)) : Prop where
  all : L.map Prod.fst = wAll f a size i
  fs : Fs wr w.heap.size v L
  below : Below w.heap.size w wr
theorem LkSt.len {w wr : World} {f : SF} {a : Int} {size i : Nat} {v : Value} {L : List (Fd × Value)} (s : LkSt w wr f a size i v L) : L.length ≤ i := by
  have := wAll_len f a size i
  rw [← s.all, List.length_map] at this
  exact this
theorem LkSt.skip {w wr w' : World} {f : SF} {a : Int} {size i : Nat} {v : Value} {L : List (Fd × Value)} (s : LkSt w wr f a size i v L) (hn : wLook f a size i = none) (hb : Below wr.heap.size wr w') : LkSt w w' f a size (i + 1) v L :=
  ⟨by rw [s.all, wAll_succ, wCell_none hn, List.append_nil], s.fs.later hb, s.below.trans (hb.mono s.below.size)⟩
theorem LkSt.next {w wr w7 w8 : World} {f : SF} {a : Int} {size i q : Nat} {A A8 : Option Addr} {m c k8 c8 : Nat} {rv : Value} {L : List (Fd × Value)} {rs : List Rcd} {o : Obj} {B' : Nat} (s : LkSt w wr f a size i (.slice A m c) L) (hl : wLook f a size i = some (q, rs)) (h7 : Below wr.heap.size wr w7)
    (hr : Ro w7 B' rv rs) (hlr : rs.length ≤ 40000) (hown : w8.ownsRow w.heap.size 81 4 (.slice A8 k8 c8) (L.length + 1) (fcs L ++ fdC (⟨i, q, rs⟩, rv))) (hg : (w7.alloc o).grownBy w8 (Value.slice A m c).ownBlock) :
    LkSt w w8 f a size (i + 1) (.slice A8 k8 c8) (L ++ [(⟨i, q, rs⟩, rv)]) := by
  have qa := (Below.refl w7.heap.size w7).alloc (Nat.le_refl _) o
  have f8 := (s.fs.later h7).later qa
  have hs : SameK [some 71] (w7.alloc o) w8 := SameK.grown hg fun z t hz ht => by
    have := kind_own f8.own hz
    rw [this] at ht
    cases ht
    decide
  refine ⟨?_, f8.snoc hown hs ?_ hlr, ?_⟩
  · rw [List.map_append, s.all, wAll_succ, wCell_some hl]; rfl
  · exact KSl.same (KSl.later (KSl.of_own (by omega) hr) qa) hs (by decide)
  · exact below_grown_own ((s.below.trans (h7.mono s.below.size)).alloc (s.below.trans (h7.mono s.below.size)).size o) f8.own hg (Nat.le_trans (s.below.trans (h7.mono s.below.size)).size qa.size)
theorem wLook_of {f : SF} {a : Int} {size i : Nat} {b : List UInt8} (hb : wBytes f (a + (i : Int) * size) size = b) : wLook f a size i = wLookB b := by unfold wLook; rw [hb]

set_option maxHeartbeats 4000000 in
set_option maxRecDepth 100000 in
theorem lglook_any (h : Zn) (D : Dsk) (gl : Nat) (a : Int) (n size : Nat) (lv sv : Value) (last synced : Nat) (w : World) (hd : Dk w h D) (hok : D.Ok) (hl : Lb w gl h.g a n size lv sv last synced) (hn : n ≤ 64) (hs : size ≤ 64) (h0 : 0 ≤ a) (h1 : a ≤ 65536) :
    Calls Tryz.prog 25 #[.pointer (some ⟨gl, 0, none⟩)] w fun e w' => ∃ v L, e = .returned v ∧ LkSt w w' D.view a size n v L := by
  have HD := Lib.hid hd
  have HOK := Lib.hid hok
  have HL := Lib.hid hl
  have l2 : w.cell? ⟨gl, 2, none⟩ = some (.int .i64 (n : Int)) := hl.cell 2
  have htit : Hid (st titleB = ⟨#[115, 101, 103, 109, 101, 110, 116]⟩) := rfl
  clear hd hok hl
  go_enter Tryz.func25, Tryz.ntmps25
  go_wp2_with fail
  clear l2
  go_loopw [3, 15] (fun ov kv wr => ∃ (i : Nat) (A : Option Addr) (m c : Nat) (L : List (Fd × Value)), ov = .slice A m c ∧ kv = .int .i64 (i : Int) ∧ i ≤ n ∧ Hid (LkSt w wr D.view a size i (.slice A m c) L)) (fun _ kv _ => n - (intOf kv).toNat)
  case atStart => exact ⟨0, none, 0, 0, [], rfl, rfl, Nat.zero_le _, ⟨rfl, ⟨World.ownsRow_nil _ _ _ _, fun x hx => by cases hx⟩, Below.refl _ _⟩⟩
  case round =>
    obtain ⟨i, A, m, c, L, rfl, rfl, hi, B⟩ := hrel
    by_cases hlt : i < n
    · go_wp2_with fail
      refine (lgbytes_any h D gl a n size i lv sv last synced wr (HD.out.later B.out.below) HOK.out (HL.out.later B.out.below) hs (by omega) h0 h1).mono ?_
      rintro e w4 ⟨Ab, kb, cb, rfl, hob, hb4⟩
      obtain rfl := hob.len
      have hbl := wBytes_len HOK.out size (a + (i : Int) * size)
      have HLK := Lib.hid (wLook_of (f := D.view) (a := a) (size := size) (i := i) rfl)
      generalize wBytes D.view (a + (i : Int) * size) size = bs at *
      go_wp2_with fail
      refine (rget_any _ _ bs w4 (by omega) hob.bs).mono ?_
      rintro e w5 ⟨rfl, hb5⟩
      have q5 := Lib.hid (hb4.trans (hb5.mono hb4.size))
      have HOB := Lib.hid (hob.later hb5)
      clear hb4 hb5 hob
      unfold wLookB at HLK
      cases hg : recGet bs with
      | none =>
        rw [hg] at HLK
        have B5 := Lib.hid (B.out.skip HLK.out (q5.out.trans (((Below.refl w5.heap.size w5).alloc (Nat.le_refl _) (.cells #[.int .u64 0, .string (st [])] 71)).mono q5.out.size)))
        have hV : rgetV none = .tuple #[.agg #[.int .u64 0, .string (st [])], .int .i64 0, .bool false] := rfl
        rw [hV]
        clear hg hV
        go_wp2_with fail
        go_roundw
        case rel => exact ⟨i + 1, A, m, c, L, rfl, by go_num, by omega, B5⟩
        case measure => simp [intOf]; omega
      | some r =>
        obtain ⟨⟨q, t⟩, m2⟩ := r
        have HQ := Lib.hid (recGet_lt' hg)
        have hlen := recGet_len hg
        rw [hg] at HLK
        have hV : rgetV (some ((q, t), m2)) = .tuple #[.agg #[.int .u64 (q : Int), .string (st t)], .int .i64 (m2 : Int), .bool true] := rfl
        rw [hV]
        clear hg hV
        have qa := (Below.refl w5.heap.size w5).alloc (Nat.le_refl _) (.cells #[.int .u64 (q : Int), .string (st t)] 71)
        have BR := Lib.hid (Blk.new w5 71 #[.int .u64 (q : Int), .string (st t)])
        have Q6 := Lib.hid (q5.out.trans (qa.mono q5.out.size))
        have HB6 := Lib.hid (HOB.out.later qa)
        clear qa q5 HOB
        by_cases ht : t = titleB
        · subst ht
          have hll : wLook D.view a size i = some (q, (recScan (bs.drop m2).length (bs.drop m2) q).1) := by have := HLK.out; simpa using this
          have HDL : Hid ((bs.drop m2).length ≤ 1099511627776) := by rw [Hid, List.length_drop]; omega
          obtain ⟨rr, hrr⟩ : ∃ rr, recScan (bs.drop m2).length (bs.drop m2) q = rr := ⟨_, rfl⟩
          rw [hrr] at hll
          have HRR := Lib.hid hrr
          have HLL := Lib.hid hll
          obtain ⟨Ab', cb', hAb, hcb, hcm, -, hAA⟩ := HB6.out.bs.at
          injection hAb with e1 e2 e3
          subst e1 e3
          obtain ⟨bb, oo, rfl, -, -⟩ := hAA (by omega)
          clear hAA hll hrr
          have HCC : Hid ((cb = m2 → Hid (Bs (fun b => wr.heap.size ≤ b ∧ b < (w5.alloc (.cells #[.int .u64 (q : Int), .string (st titleB)] 71)).heap.size) (w5.alloc (.cells #[.int .u64 (q : Int), .string (st titleB)] 71)) (.slice (some ⟨bb, oo, none⟩) 0 0) (bs.drop m2))) ∧ (¬ cb = m2 → Hid (Bs (fun b => wr.heap.size ≤ b ∧ b < (w5.alloc (.cells #[.int .u64 (q : Int), .string (st titleB)] 71)).heap.size) (w5.alloc (.cells #[.int .u64 (q : Int), .string (st titleB)] 71)) (.slice (some ⟨bb, oo + m2, none⟩) (bs.length - m2) (cb - m2)) (bs.drop m2)))) := by
            have := HB6.out.bs.cut (k := m2) hlen.2
            exact ⟨fun h => by rw [if_pos h, h, Nat.sub_self, show bs.length - m2 = 0 by omega] at this; exact this, fun h => by rw [if_neg h] at this; exact this⟩
          have r1 : (w5.alloc (.cells #[.int .u64 (q : Int), .string (st titleB)] 71)).cell? ⟨w5.heap.size, 1, none⟩ = some (.string (st titleB)) := BR.out.cell 1
          have r0 : (w5.alloc (.cells #[.int .u64 (q : Int), .string (st titleB)] 71)).cell? ⟨w5.heap.size, 0, none⟩ = some (.int .u64 (q : Int)) := BR.out.cell 0
          have hbt : (titleB == [115, 101, 103, 109, 101, 110, 116]) = true := rfl
          have b1 : (0 : Int) ≤ (m2 : Int) := by omega
          have b2 : (m2 : Int) ≤ (bs.length : Int) := by omega
          go_wp2_with fail
          generalize w5.alloc _ = w6 at *
          generalize w5.heap.size = gr at *
          clear hbt r1
          by_cases hcn : cb = m2
          · have HCUT := HCC.out.1 hcn
            have hcn := hcn.symm
            subst hcn
            have r0 : w6.cell? ⟨gr, 0, none⟩ = some (.int .u64 (q : Int)) := BR.out.cell 0
            go_region_held3 (fun w' => w'.cell? ⟨gr, 0, none⟩ = some (.int .u64 (q : Int)))
              (first
                | (with_reducible assumption)
                | (simp only [World.cell?_drew]; with_reducible assumption)
                | (apply cell_later hb7; assumption))
              ((first
                | (go_at_call 47; refine (rscan_eq _ _ (bs.drop m2) q rr HRR.out _ HDL.out HQ.out (Bs.later HCUT.out (below_drewN (Below.refl _ _) 1))).mono ?_; rintro e w7 ⟨Ar, kr, cr, rfl, hro, hb7⟩)))
            have HRO := Lib.hid hro
            obtain rfl := hro.len
            have Q7 := Lib.hid (Q6.out.trans (((below_drewN (Below.refl w6.heap.size w6) 1).trans hb7).mono Q6.out.size))
            have BR7 := Lib.hid (BR.out.later ((below_drewN (Below.refl w6.heap.size w6) 1).trans hb7))
            clear hro hb7 r0
            have hrl : rr.1.length ≤ 40000 := by
              have h1 := recScan_len (bs.drop m2).length (bs.drop m2) q
              rw [HRR.out, List.length_drop] at h1
              omega
            have HRL := Lib.hid hrl
            have hwl := wrap_u64 (n := ((rr.1.length : Nat) : Int)) (by omega) (by unfold U64; omega)
            have r0 : w7.cell? ⟨gr, 0, none⟩ = some (.int .u64 (q : Int)) := BR7.out.cell 0
            have HOWN := Lib.hid (own_later B.out.fs.own Q7.out)
            have hll := B.out.len
            have hz7 := Nat.le_trans B.out.below.size Q7.out.size
            have hM1 : Hid (L.length + 1 ≤ maxLen) := by simp only [Hid, maxLen]; omega
            have hM2 : Hid ((L.length + 1) * 48 ≤ 140737488355328) := by rw [Hid]; omega
            have hM3 : Hid (∀ o : Obj, w.heap.size ≤ (w7.alloc o).heap.size) := fun o => by simp; omega
            have hM4 := Lib.hid (fdC_one (x := (⟨i, q, rr.1⟩, .slice Ar rr.1.length cr)) ⟨_, _, _, rfl⟩)
            go_wp2_with (at_builtin; refine wpList_append_sl _ rfl (.tmp 43) (.tmp 53) elemFd rfl (World.ownsRow.alloc HOWN.out _) (Sl.newfd w7 (⟨i, q, rr.1⟩, .slice Ar rr.1.length cr) rfl) rfl rfl hM4.out hM1.out hM2.out (hM3.out _) ?_; intro A8 k8 c8 w8 hown8 hg8 hat8)
            have BN := Lib.hid (B.out.next HLL.out Q7.out HRO.out HRL.out hown8 hg8)
            go_roundw
            case rel => exact ⟨i + 1, A8, k8, c8, _, rfl, by go_num, by omega, BN⟩
            case measure => simp [intOf]; omega
          · have HCUT := HCC.out.2 hcn
            have r0 : w6.cell? ⟨gr, 0, none⟩ = some (.int .u64 (q : Int)) := BR.out.cell 0
            go_region_held3 (fun w' => w'.cell? ⟨gr, 0, none⟩ = some (.int .u64 (q : Int)))
              (first
                | (with_reducible assumption)
                | (simp only [World.cell?_drew]; with_reducible assumption)
                | (apply cell_later hb7; assumption))
              ((first
                | (go_at_call 47; refine (rscan_eq _ _ (bs.drop m2) q rr HRR.out _ HDL.out HQ.out (Bs.later HCUT.out (below_drewN (Below.refl _ _) 1))).mono ?_; rintro e w7 ⟨Ar, kr, cr, rfl, hro, hb7⟩)))
            have HRO := Lib.hid hro
            obtain rfl := hro.len
            have Q7 := Lib.hid (Q6.out.trans (((below_drewN (Below.refl w6.heap.size w6) 1).trans hb7).mono Q6.out.size))
            have BR7 := Lib.hid (BR.out.later ((below_drewN (Below.refl w6.heap.size w6) 1).trans hb7))
            clear hro hb7 r0
            have hrl : rr.1.length ≤ 40000 := by
              have h1 := recScan_len (bs.drop m2).length (bs.drop m2) q
              rw [HRR.out, List.length_drop] at h1
              omega
            have HRL := Lib.hid hrl
            have hwl := wrap_u64 (n := ((rr.1.length : Nat) : Int)) (by omega) (by unfold U64; omega)
            have r0 : w7.cell? ⟨gr, 0, none⟩ = some (.int .u64 (q : Int)) := BR7.out.cell 0
            have HOWN := Lib.hid (own_later B.out.fs.own Q7.out)
            have hll := B.out.len
            have hz7 := Nat.le_trans B.out.below.size Q7.out.size
            have hM1 : Hid (L.length + 1 ≤ maxLen) := by simp only [Hid, maxLen]; omega
            have hM2 : Hid ((L.length + 1) * 48 ≤ 140737488355328) := by rw [Hid]; omega
            have hM3 : Hid (∀ o : Obj, w.heap.size ≤ (w7.alloc o).heap.size) := fun o => by simp; omega
            have hM4 := Lib.hid (fdC_one (x := (⟨i, q, rr.1⟩, .slice Ar rr.1.length cr)) ⟨_, _, _, rfl⟩)
            go_wp2_with (at_builtin; refine wpList_append_sl _ rfl (.tmp 43) (.tmp 53) elemFd rfl (World.ownsRow.alloc HOWN.out _) (Sl.newfd w7 (⟨i, q, rr.1⟩, .slice Ar rr.1.length cr) rfl) rfl rfl hM4.out hM1.out hM2.out (hM3.out _) ?_; intro A8 k8 c8 w8 hown8 hg8 hat8)
            have BN := Lib.hid (B.out.next HLL.out Q7.out HRO.out HRL.out hown8 hg8)
            go_roundw
            case rel => exact ⟨i + 1, A8, k8, c8, _, rfl, by go_num, by omega, BN⟩
            case measure => simp [intOf]; omega
        · have hno : wLook D.view a size i = none := by have := HLK.out; simpa [ht] using this
          have B6 := Lib.hid (B.out.skip hno Q6.out)
          have hbt : (t == [115, 101, 103, 109, 101, 110, 116]) = false := by
            rw [beq_eq_false_iff_ne]
            exact ht
          clear hno
          go_wp2_with fail
          go_roundw
          case rel => exact ⟨i + 1, A, m, c, L, rfl, by go_num, by omega, B6⟩
          case measure => simp [intOf]; omega
    · obtain rfl : i = n := by omega
      go_wp2_with fail
      go_ret
      exact ⟨_, L, rfl, B.out⟩
end Go.Proofs.YtojlldalhhibmaaGreatDoor

namespace Go.Proofs.YtojlldalhhibmaaGreatDoor
open Go Go.RowKit
set_option linter.unusedVariables false

def sgC (s : Sg) : List Value := [.int .i64 (s.at' : Int), .int .u64 (s.base : Int), .int .u64 (s.count : Int)]
def sgcs (l : List Sg) : List Value := l.flatMap sgC
theorem sgcs_len (l : List Sg) : (sgcs l).length = l.length * 3 := by
  induction l with
  | nil => rfl
  | cons x xs ih => simp only [sgcs, List.flatMap_cons, List.length_append] at ih ⊢; rw [ih]; simp [sgC]; omega
/-- The slice value v reads as the segments l. -/
abbrev Rg3 (w : World) (v : Value) (l : List Sg) : Prop := KSl 79 3 w v l.length (sgcs l)
theorem sgcs_get : ∀ (l : List Sg) (j : Nat) (hj : j < l.length), (sgcs l)[j * 3]? = some (.int .i64 (l[j].at' : Int)) ∧ (sgcs l)[j * 3 + 1]? = some (.int .u64 (l[j].base : Int)) ∧ (sgcs l)[j * 3 + 2]? = some (.int .u64 (l[j].count : Int))
  | x :: xs, 0, _ => ⟨rfl, rfl, rfl⟩
  | x :: xs, j + 1, hj => by
    have h := sgcs_get xs j (by simpa using hj)
    have e : sgcs (x :: xs) = sgC x ++ sgcs xs := rfl
    have g : ∀ k, (sgcs (x :: xs))[(j + 1) * 3 + k]? = (sgcs xs)[j * 3 + k]? := fun k => by
      rw [e, List.getElem?_append_right (by simp [sgC]; omega)]
      congr 1
      simp [sgC]
      omega
    refine ⟨?_, ?_, ?_⟩
    · rw [show (j + 1) * 3 = (j + 1) * 3 + 0 by omega, g]; exact h.1
    · rw [g]; exact h.2.1
    · rw [g]; exact h.2.2
theorem Rg3.at {w : World} {v : Value} {l : List Sg} (h : Rg3 w v l) : ∃ A c, v = .slice A l.length c ∧ l.length ≤ c ∧ c ≤ maxLen ∧
    (0 < l.length → ∃ b o, A = some ⟨b, o, none⟩ ∧ b < w.heap.size ∧ ∀ j (hj : j < l.length), w.cell? ⟨b, o + j * 3, none⟩ = some (.int .i64 (l[j].at' : Int)) ∧ w.cell? ⟨b, o + j * 3 + 1, none⟩ = some (.int .u64 (l[j].base : Int)) ∧ w.cell? ⟨b, o + j * 3 + 2, none⟩ = some (.int .u64 (l[j].count : Int))) := by
  obtain ⟨_, A, c, h2, h3, h4, h5, h6⟩ := KSl.lt h
  refine ⟨A, c, h2, h3, h4, fun hn => ?_⟩
  obtain ⟨b, o, ha, hs, hc⟩ := h6 hn
  refine ⟨b, o, ha, hs, fun j hj => ?_⟩
  have hg := sgcs_get l j hj
  refine ⟨hc _ _ hg.1, ?_, ?_⟩
  · rw [Nat.add_assoc]; exact hc _ _ hg.2.1
  · rw [Nat.add_assoc]; exact hc _ _ hg.2.2

set_option maxHeartbeats 1000000 in
theorem used1_any (x : Sg) (i gb : Nat) (w : World) (hb : Blk w gb 3 #[.int .i64 (i : Int)]) :
    Calls Tryz.prog 49 #[.agg #[.int .i64 (x.at' : Int), .int .u64 (x.base : Int), .int .u64 (x.count : Int)], .pointer (some ⟨gb, 0, none⟩)] w fun e w' => e = .returned (.bool (x.at' == i)) ∧ Below w.heap.size w w' := by
  have q := (Below.refl w.heap.size w).alloc (Nat.le_refl _) (.cells #[.int .i64 (x.at' : Int), .int .u64 (x.base : Int), .int .u64 (x.count : Int)] 79)
  have c0 : (w.alloc (.cells #[.int .i64 (x.at' : Int), .int .u64 (x.base : Int), .int .u64 (x.count : Int)] 79)).cell? ⟨gb, 0, none⟩ = some (.int .i64 (i : Int)) := (hb.later q).cell 0
  have hlt := hb.lt
  clear hb
  by_cases hx : x.at' = i
  · subst hx
    have hx2 : (x.at' == x.at') = true := by simp
    rw [hx2]
    clear hx2
    go_enter Tryz.func49, Tryz.ntmps49
    go_wp2_with fail
    go_ret
    exact ⟨by simp, q⟩
  · have hx2 : (x.at' == i) = false := by simpa using hx
    have hx4 := Lib.hid hx
    clear hx
    have hx3 : ¬ ((x.at' : Int) = (i : Int)) := by have := hx4.out; omega
    rw [hx2]
    clear hx2
    go_enter Tryz.func49, Tryz.ntmps49
    go_wp2_with fail
    go_ret
    exact ⟨by simp [hx3], q⟩

set_option maxHeartbeats 2000000 in
set_option maxRecDepth 100000 in
theorem sgindex_any (lv : Value) (live : List Sg) (i gb : Nat) (w : World) (hb : Blk w gb 3 #[.int .i64 (i : Int)]) (hl : Rg3 w lv live) :
    Calls Tryz.prog 73 #[lv, .func (Fn.func 49) #[] #[.pointer (some ⟨gb, 0, none⟩)]] w fun e w' => ∃ r : Int, e = .returned (.int .i64 r) ∧ (0 ≤ r ↔ usedL live i = true) ∧ Below w.heap.size w w' := by
  obtain ⟨A, c, rfl, hlc, hcm, hA⟩ := hl.at
  have HA := Lib.hid hA
  have HB := Lib.hid hb
  have hm : live.length ≤ 9223372036854775807 := by unfold maxLen at hcm; omega
  clear hl hb hA
  go_enter Tryz.func73, Tryz.ntmps73
  go_wp2_with fail
  go_loopw [8] (fun kv wr => ∃ k : Nat, kv = .int .i64 (k : Int) ∧ k ≤ live.length ∧ Hid (usedL (live.take k) i = false) ∧ Hid (Below w.heap.size w wr)) (fun kv _ => live.length - (intOf kv).toNat)
  case atStart => exact ⟨0, rfl, Nat.zero_le _, rfl, Below.refl _ _⟩
  case round =>
    obtain ⟨k, rfl, hk, HU, B⟩ := hrel
    by_cases hlt : k < live.length
    · obtain ⟨b, o, rfl, hbl, hcell⟩ := HA.out (by omega)
      obtain ⟨k0, k1, k2⟩ := hcell k hlt
      have x0 := (B.out.cell (p := ⟨b, o + k * 3, none⟩) hbl).trans k0
      have x1 := (B.out.cell (p := ⟨b, o + k * 3 + 1, none⟩) hbl).trans k1
      have x2 := (B.out.cell (p := ⟨b, o + k * 3 + 2, none⟩) hbl).trans k2
      have HBR := Lib.hid (HB.out.later B.out)
      have HT : Hid (live.take (k + 1) = live.take k ++ [live[k]]) := by rw [Hid, List.take_add_one, List.getElem?_eq_getElem hlt]; rfl
      have HM := Lib.hid (List.getElem_mem hlt)
      clear hcell k0 k1 k2
      generalize live[k] = x at *
      go_wp2_with fail
      refine (used1_any x i gb wr HBR.out).mono ?_
      rintro e w4 ⟨rfl, hb4⟩
      have B4 := Lib.hid (B.out.trans (hb4.mono B.out.size))
      by_cases hx : x.at' = i
      · have hx2 : (x.at' == i) = true := by simpa using hx
        rw [hx2]
        go_wp2_with fail
        go_ret
        exact ⟨_, rfl, ⟨fun _ => usedL_iff.2 ⟨x, HM.out, hx⟩, fun _ => by omega⟩, B4.out⟩
      · have hx2 : (x.at' == i) = false := by simpa using hx
        have HU2 : Hid (usedL (live.take (k + 1)) i = false) := by rw [Hid, HT.out, usedL_snoc, HU.out, hx2]; rfl
        rw [hx2]
        go_wp2_with fail
        go_roundw
        case rel => exact ⟨k + 1, by go_num, by omega, HU2, B4⟩
        case measure => simp [intOf]; omega
    · obtain rfl : k = live.length := by omega
      have hu := HU.out
      rw [List.take_length] at hu
      go_wp2_with fail
      go_ret
      exact ⟨_, rfl, ⟨fun h => by simp at h, fun h => by rw [hu] at h; cases h⟩, B.out⟩

set_option maxHeartbeats 1000000 in
theorem sgcontains_any (lv : Value) (live : List Sg) (i gb : Nat) (w : World) (hb : Blk w gb 3 #[.int .i64 (i : Int)]) (hl : Rg3 w lv live) :
    Calls Tryz.prog 48 #[lv, .func (Fn.func 49) #[] #[.pointer (some ⟨gb, 0, none⟩)]] w fun e w' => e = .returned (.bool (usedL live i)) ∧ Below w.heap.size w w' := by
  go_enter Tryz.func48, Tryz.ntmps48
  go_wp2_with fail
  refine (sgindex_any lv live i gb w hb hl).mono ?_
  rintro e w4 ⟨r, rfl, hr, hb4⟩
  have HR := Lib.hid hr
  clear hr
  go_wp2_with fail
  go_ret
  refine ⟨?_, hb4⟩
  have := HR.out
  cases hu : usedL live i
  · rw [hu] at this
    simp at this
    simp; omega
  · rw [hu] at this
    simp at this
    simp [this]

set_option maxHeartbeats 1000000 in
theorem lgused_any (gl hg : Nat) (a : Int) (n size i : Nat) (lv sv : Value) (last synced : Nat) (live : List Sg) (w : World) (hl : Lb w gl hg a n size lv sv last synced) (hs : Rg3 w lv live) :
    Calls Tryz.prog 29 #[.pointer (some ⟨gl, 0, none⟩), .int .i64 (i : Int)] w fun e w' => e = .returned (.bool (usedL live i)) ∧ Below w.heap.size w w' := by
  have qa := (Below.refl w.heap.size w).alloc (Nat.le_refl _) (.cells #[.int .i64 (i : Int)] 3)
  have l4 : (w.alloc (.cells #[.int .i64 (i : Int)] 3)).cell? ⟨gl, 4, none⟩ = some lv := (hl.later qa).cell 4
  have HS := Lib.hid (KSl.later hs qa)
  have HB := Lib.hid (Blk.new w 3 #[.int .i64 (i : Int)])
  have HQ := Lib.hid qa
  have hmf := run_makeFunc Tryz.prog
  obtain ⟨A, c, rfl, -⟩ := hs.at
  clear hl hs qa
  go_enter Tryz.func29, Tryz.ntmps29
  go_wp2_with fail
  refine (sgcontains_any _ live i _ _ HB.out HS.out).mono ?_
  rintro e w4 ⟨rfl, hb4⟩
  have q := HQ.out.trans (hb4.mono HQ.out.size)
  go_wp2_with fail
  go_ret
  exact ⟨rfl, q⟩
end Go.Proofs.YtojlldalhhibmaaGreatDoor

namespace Go.Proofs.YtojlldalhhibmaaGreatDoor
open Go Go.RowKit
set_option linter.unusedVariables false

abbrev Sec := Int × List UInt8
def scs (l : List Sec) : List Value := l.flatMap fun x => [.int .i64 x.1, .string (st x.2)]
theorem scs_len (l : List Sec) : (scs l).length = l.length * 2 := by
  induction l with
  | nil => rfl
  | cons r rs ih => simp only [scs, List.flatMap_cons, List.length_append, List.length_cons, List.length_nil] at ih ⊢; omega
theorem scs_append (a b : List Sec) : scs (a ++ b) = scs a ++ scs b := by simp [scs]
theorem scs_one (l : List Sec) : ∀ u ∈ scs l, u.oneCell' = true := by
  intro u hu
  obtain ⟨r, _, hu⟩ := List.mem_flatMap.1 hu
  simp at hu
  rcases hu with rfl | rfl <;> rfl
theorem scs_at {l : List Sec} {j : Nat} (h : j < l.length) : (scs l)[j * 2]? = some (.int .i64 l[j].1) ∧ (scs l)[j * 2 + 1]? = some (.string (st l[j].2)) := by
  induction l generalizing j with
  | nil => simp at h
  | cons r rs ih =>
    rcases j with _ | j
    · simp [scs]
    · have := ih (j := j) (by simpa using h)
      simp only [scs, List.flatMap_cons] at this ⊢
      rw [show (j + 1) * 2 = j * 2 + 1 + 1 by omega]
      simpa using this
/-- The slice value v reads as the sectors l. -/
def Sc (w : World) (v : Value) (l : List Sec) : Prop := KSl 134 2 w v l.length (scs l)
theorem Sc.nil (w : World) : Sc w (.slice none 0 0) [] := KSl.nil
theorem Sc.later {w w' : World} {v : Value} {l : List Sec} (h : Sc w v l) (hb : Below w.heap.size w w') : Sc w' v l := KSl.later h hb
theorem Sc.at {w : World} {v : Value} {l : List Sec} (h : Sc w v l) : ∃ A c, v = .slice A l.length c ∧ l.length ≤ c ∧ c ≤ maxLen ∧
    (0 < l.length → ∃ b o, A = some ⟨b, o, none⟩ ∧ b < w.heap.size ∧ ∀ j (hj : j < l.length), w.cell? ⟨b, o + j * 2, none⟩ = some (.int .i64 l[j].1) ∧ w.cell? ⟨b, o + j * 2 + 1, none⟩ = some (.string (st l[j].2))) := by
  obtain ⟨_, A, c, h2, h3, h4, h5, h6⟩ := KSl.lt h
  refine ⟨A, c, h2, h3, h4, fun hn => ?_⟩
  obtain ⟨b, o, ha, hs, hc⟩ := h6 hn
  refine ⟨b, o, ha, hs, fun j hj => ⟨hc _ _ (scs_at hj).1, ?_⟩⟩
  rw [Nat.add_assoc]
  exact hc _ _ (scs_at hj).2
def lookL (l : List Sec) (a : Int) : Option (List UInt8) := (l.find? fun x => x.1 == a).map (·.2)
theorem lookL_drop {l : List Sec} {i : Nat} (h : i < l.length) (a : Int) : lookL (l.drop i) a = if l[i].1 = a then some l[i].2 else lookL (l.drop (i + 1)) a := by
  unfold lookL
  rw [List.drop_eq_getElem_cons h]
  by_cases ha : l[i].1 = a
  · rw [if_pos ha, List.find?_cons_of_pos (by simp [ha])]; rfl
  · rw [if_neg ha, List.find?_cons_of_neg (by simpa using ha)]
theorem sectorTy : StructTy Tryz.prog 134 2 := ⟨⟨_, Tryz.underlying134⟩, by kernel_rfl⟩
theorem elemSec : Elem Tryz.prog 30 134 (.agg #[.int .i64 0, .string ⟨#[]⟩]) 2 24 := Elem.mk' Tryz.underlying30 (by kernel_rfl) rfl (by omega)

set_option maxHeartbeats 1000000 in
set_option maxRecDepth 100000 in
theorem rfind_any (v0 : Value) (l : List Sec) (a : Int) (w : World) (hr : Sc w v0 l) (hl : l.length ≤ 1000000) :
    Calls Tryz.prog 59 #[v0, .int .i64 a] w fun e w' => e = .returned (.tuple #[.string (st ((lookL l a).getD [])), .bool (lookL l a).isSome]) ∧ w = w' := by
  obtain ⟨A, c, rfl, hlc, hcm, hA⟩ := hr.at
  have HA := Lib.hid hA
  clear hA hr
  go_enter Tryz.func59, Tryz.ntmps59
  go_wp2_with fail
  go_loop [6] (fun iv => ∃ i : Nat, iv = .int .i64 (i : Int) ∧ i ≤ l.length ∧ Hid (lookL l a = lookL (l.drop i) a)) (fun iv => l.length - (intOf iv).toNat)
  case atStart => exact ⟨0, rfl, by omega, rfl⟩
  case round =>
    obtain ⟨i, rfl, hi, hlk⟩ := hrel
    by_cases hil : i < l.length
    · obtain ⟨b, o, rfl, hbs, hc⟩ := HA.out (by omega)
      have c0 := (hc i hil).1
      have c1 := (hc i hil).2
      have HD := Lib.hid (hlk.out.trans (lookL_drop hil a))
      generalize l[i] = x at *
      obtain ⟨p, s⟩ := x
      simp only at c0 c1 HD
      clear hc hlk
      by_cases hpa : p = a
      · subst hpa
        have HE : Hid (lookL l p = some s) := by rw [Hid, HD.out, if_pos rfl]
        go_wp2_with fail
        go_ret2
        exact ⟨by rw [HE.out]; rfl, rfl⟩
      · have HE : Hid (lookL l a = lookL (l.drop (i + 1)) a) := by rw [Hid, HD.out, if_neg hpa]
        have hb : (p == a) = false := by simpa using hpa
        go_wp2_with fail
        go_round
        case rel => exact ⟨i + 1, by go_num, by omega, HE⟩
        case measure => simp [intOf]; omega
    · obtain rfl : i = l.length := by omega
      have HE : Hid (lookL l a = none) := by rw [Hid, hlk.out, List.drop_length]; rfl
      go_wp2_with fail
      go_ret2
      exact ⟨by rw [HE.out]; rfl, rfl⟩
end Go.Proofs.YtojlldalhhibmaaGreatDoor

namespace Go.Proofs.YtojlldalhhibmaaGreatDoor
open Go Go.RowKit
set_option linter.unusedVariables false

/-- A pending write of the document's, cell by cell. -/
def pnC : Pnd → Array Value
  | .wr a b => #[.int .i64 a, .bool false, .string (st b)]
  | .fr a => #[.int .i64 a, .bool true, .string ⟨#[]⟩]
def pnAt : Pnd → Int
  | .wr a _ => a
  | .fr a => a
/-- The list behind a write of which n bytes are done. -/
def rdL (l : List Sec) (p : Pnd) (n : Int) : List Sec := match p with
  | .wr a b => (l.filter fun y => y.1 != a) ++ [(a, tornB b ((lookL l a).getD []) n)]
  | .fr a => l.filter fun y => y.1 != a
theorem Sl.newsec {S : Nat → Prop} (w : World) (x : Sec) {g : Nat} (hg : g = w.heap.size) (hS : S g) :
    Sl S (w.alloc (.cells #[.int .i64 x.1, .string (st x.2)] 134)) 2 (.slice (some ⟨g, 0, none⟩) 1 1) 1 (scs [x]) := by
  subst hg
  refine ⟨by simp [scs], _, 1, rfl, by simp, by simp [maxLen], (fun h => by cases h), fun _ => ⟨_, 0, rfl, hS, fun j v hu => ?_⟩⟩
  rw [World.cell?_alloc_new, Nat.zero_add]
  simpa [scs] using hu
/-- The slice value v owns the sectors l. -/
def So (w : World) (B : Nat) (v : Value) (l : List Sec) : Prop := w.ownsRow B 134 2 v l.length (scs l)
theorem So.sc {w : World} {B : Nat} {v : Value} {l : List Sec} (h : So w B v l) : Sc w v l := KSl.of_own (by omega) h
theorem So.later {w w' : World} {B : Nat} {v : Value} {l : List Sec} (h : So w B v l) (hb : Below w.heap.size w w') : So w' B v l := by
  obtain ⟨h1, h2⟩ := h
  refine ⟨h1, ?_⟩
  rcases h2 with h2 | ⟨g, cap, cur, hv, hg, hh, r⟩
  · exact .inl h2
  · exact .inr ⟨g, cap, cur, hv, hg, (hb.block g (lt_of_block hh)).trans hh, r⟩
theorem So.made (w : World) (B : Nat) (hB : B ≤ w.heap.size) {g : Nat} (hg : g = w.heap.size) : So (w.alloc (.cells #[] 134)) B (.slice (some ⟨g, 0, none⟩) 0 0) [] := by
  subst hg
  exact World.ownsRow_made w #[] 0 hB (by simp [maxLen]) (by simp)
theorem filter_take_succ {l : List Sec} {i : Nat} (h : i < l.length) (a : Int) : (l.take (i + 1)).filter (fun y => y.1 != a) = (l.take i).filter (fun y => y.1 != a) ++ (if l[i].1 = a then [] else [l[i]]) := by
  rw [List.take_succ_eq_append_getElem h, List.filter_append]
  congr 1
  by_cases ha : l[i].1 = a
  · rw [if_pos ha, List.filter_cons_of_neg (by simp [ha])]; rfl
  · rw [if_neg ha, List.filter_cons_of_pos (by simpa using ha)]; rfl

/-- The loop of done. -/
structure DnSt (w wr : World) (p : Pnd) (sl : Value) (m : List Sec) : Prop where
  own : So wr w.heap.size sl m
  blk : Blk wr w.heap.size 111 (pnC p)
  below : Below w.heap.size w wr

theorem rdone_fin {w w3 : World} {l m : List Sec} {a : Int} {b O T : List UInt8} {n : Int} {A : Option Addr} {c : Nat} (hT : tornB b O n = T) (hM : rdL l (.wr a b) n = m ++ [(a, tornB b O n)]) (hown : w3.ownsRow w.heap.size 134 2 (.slice A (m.length + 1) c) (m.length + 1) (scs m ++ scs [(a, T)])) (hb : Below w.heap.size w w3) :
    ∃ A' c', Ending.returned (.slice A (m.length + 1) c) = .returned (.slice A' (rdL l (.wr a b) n).length c') ∧ Sc w3 (.slice A' (rdL l (.wr a b) n).length c') (rdL l (.wr a b) n) ∧ Below w.heap.size w w3 := by
  rw [hM, hT]
  have e : (m ++ [(a, T)]).length = m.length + 1 := by simp
  refine ⟨A, c, by rw [e], ?_, hb⟩
  rw [e]
  refine So.sc (B := w.heap.size) ?_
  unfold So
  rw [scs_append, e]
  exact hown

set_option maxHeartbeats 4000000 in
set_option maxRecDepth 100000 in
theorem rdone_any (v0 : Value) (l : List Sec) (p : Pnd) (n : Int) (w : World) (hr : Sc w v0 l) (hl : l.length ≤ 1000000) (hn : InI n) (hpb : match p with | .wr _ b => b.length ≤ 1099511627776 | .fr _ => True) (hlb : ((lookL l (pnAt p)).getD []).length ≤ 1099511627776) :
    Calls Tryz.prog 44 #[v0, .agg (pnC p), .int .i64 n] w fun e w' => ∃ A c, e = .returned (.slice A (rdL l p n).length c) ∧ Sc w' (.slice A (rdL l p n).length c) (rdL l p n) ∧ Below w.heap.size w w' := by
  have HR := Lib.hid hr
  obtain ⟨A, c, rfl, hlc, hcm, hA⟩ := hr.at
  have HA := Lib.hid hA
  have b0 := Blk.new w 111 (pnC p)
  have q0 := (Below.refl w.heap.size w).alloc (Nat.le_refl _) (.cells (pnC p) 111)
  have HR0 := Lib.hid (HR.out.later q0)
  have HB0 := Lib.hid b0
  have HPB := Lib.hid hpb
  have HLB := Lib.hid hlb
  clear hA hr hpb hlb
  cases p with
  | fr a =>
    unfold pnC at HB0 HR0 q0 b0 ⊢
    have c0 : (w.alloc (.cells #[.int .i64 a, .bool true, .string ⟨#[]⟩] 111)).cell? ⟨w.heap.size, 0, none⟩ = some (.int .i64 a) := b0.cell 0
    have e1 : (w.alloc (.cells #[.int .i64 a, .bool true, .string ⟨#[]⟩] 111)).heap.size = w.heap.size + 1 := by simp
    go_enter Tryz.func44, Tryz.ntmps44
    go_wp2_with fail
    refine (rfind_any _ l a _ HR0.out hl).mono ?_
    rintro e w1 ⟨rfl, rfl⟩
    have S0 : DnSt w ((w.alloc (.cells #[.int .i64 a, .bool true, .string ⟨#[]⟩] 111)).alloc (.cells #[] 134)) (.fr a) (.slice (some ⟨w.heap.size + 1, 0, none⟩) 0 0) [] :=
      ⟨So.made _ _ (by simp) (by simp), b0.alloc _, q0.alloc q0.size _⟩
    clear HR0 HB0 b0 c0
    have HLB2 : Hid (((lookL l a).getD []).length ≤ 1099511627776) := HLB.out
    obtain ⟨O, hO⟩ : ∃ O, (lookL l a).getD [] = O := ⟨_, rfl⟩
    rw [hO] at HLB2
    rw [hO]
    obtain ⟨U, hU⟩ : ∃ U, (lookL l a).isSome = U := ⟨_, rfl⟩
    rw [hU]
    have HOO := Lib.hid hO
    have hOl : O.length ≤ 1099511627776 := HLB2.out
    clear hO hU
    go_wp2_with fail
    generalize hW : (w.alloc (.cells #[.int .i64 a, .bool true, .string ⟨#[]⟩] 111)).alloc (.cells #[] 134) = W at *
    clear hW
    go_loopw [9, 10] (fun sv iv wr => ∃ (i : Nat), iv = .int .i64 (i : Int) ∧ i ≤ l.length ∧ DnSt w wr (.fr a) sv ((l.take i).filter fun y => y.1 != a)) (fun _ iv _ => l.length - (intOf iv).toNat)
    case atStart => exact ⟨0, rfl, by omega, S0⟩
    case round =>
      clear S0
      obtain ⟨i, rfl, hi, hst⟩ := hrel
      have HST := Lib.hid hst
      obtain ⟨A1, k1, c1, rfl⟩ := own_slice hst.own
      obtain rfl := own_len hst.own
      have hml : ((l.take i).filter fun y => y.1 != a).length ≤ l.length := Nat.le_trans (List.length_filter_le _ _) (by rw [List.length_take]; omega)
      have p0 : wr.cell? ⟨w.heap.size, 0, none⟩ = some (.int .i64 a) := hst.blk.cell 0
      have p1 : wr.cell? ⟨w.heap.size, 1, none⟩ = some (.bool true) := hst.blk.cell 1
      have hwl : w.heap.size < wr.heap.size := hst.blk.lt
      by_cases hil : i < l.length
      · obtain ⟨b', o, rfl, hbs, hc⟩ := HA.out (by omega)
        have d0 : wr.cell? ⟨b', o + i * 2, none⟩ = some (.int .i64 l[i].1) := (hst.below.cell (p := ⟨b', o + i * 2, none⟩) hbs).trans (hc i hil).1
        have d1 : wr.cell? ⟨b', o + i * 2 + 1, none⟩ = some (.string (st l[i].2)) := (hst.below.cell (p := ⟨b', o + i * 2 + 1, none⟩) hbs).trans (hc i hil).2
        have HFS := Lib.hid (filter_take_succ hil a)
        generalize l[i] = x at *
        obtain ⟨y, z⟩ := x
        simp only at d0 d1
        obtain ⟨m, hm⟩ : ∃ m, (l.take i).filter (fun y => y.1 != a) = m := ⟨_, rfl⟩
        rw [hm] at HFS HST hml ⊢
        have hsz := hst.below.size
        clear hc hst hm
        by_cases hya : y = a
        · have HF2 : Hid ((l.take (i + 1)).filter (fun y => y.1 != a) = m) := by rw [Hid, HFS.out, if_pos hya, List.append_nil]
          have hb : (y != a) = false := by simp [hya]
          clear HFS hya
          go_wp2_with fail
          go_quiet (fail)
          go_wp2_with fail
          go_roundw
          case rel => exact ⟨i + 1, by go_num, by omega, by rw [HF2.out]; exact ⟨HST.out.own.later (below_drewN (Below.refl _ _) _), HST.out.blk.drewN _, below_drewN HST.out.below _⟩⟩
          case measure => simp [intOf]; omega
        · have HF2 : Hid ((l.take (i + 1)).filter (fun y => y.1 != a) = m ++ [(y, z)]) := by rw [Hid, HFS.out, if_neg hya]
          have hb : (y != a) = true := by simpa using hya
          clear HFS hya
          go_wp2_with fail
          go_quiet (fail)
          have HOW : Hid (So (wr.drewN nq) w.heap.size (.slice A1 m.length c1) m) := HST.out.own
          have HBK : Hid (Blk (wr.drewN nq) w.heap.size 111 (pnC (.fr a))) := HST.out.blk
          have HBL : Hid (Below w.heap.size w (wr.drewN nq)) := below_drewN HST.out.below _
          have d0 : (wr.drewN nq).cell? ⟨b', o + i * 2, none⟩ = some (.int .i64 y) := d0
          have d1 : (wr.drewN nq).cell? ⟨b', o + i * 2 + 1, none⟩ = some (.string (st z)) := d1
          generalize wr.drewN nq = W2 at *
          have hblt : b' < W2.heap.size := World.block_lt_of_cell? W2 _ d0
          have qa : Below W2.heap.size W2 (W2.alloc (.cells #[.int .i64 y, .string (st z)] 134)) := (Below.refl _ _).alloc (Nat.le_refl _) _
          have hoc := Lib.hid (HOW.out.later qa)
          have hbk := Lib.hid (HBK.out.later qa)
          have q2 := Lib.hid (HBL.out.trans (qa.mono HBL.out.size))
          have hszz : w.heap.size ≤ (W2.alloc (.cells #[.int .i64 y, .string (st z)] 134)).heap.size := q2.out.size
          go_wp2_with (at_builtin; refine wpList_append_sl _ rfl (.tmp 34) (.tmp 39) elemSec rfl hoc.out (Sl.newsec (S := fun _ => True) _ (y, z) rfl trivial) rfl rfl (scs_one _) (by simp only [maxLen]; omega) (by omega) hszz ?_; intro A3 k3 c3 w3 hown3 hga hat3)
          go_roundw
          case rel =>
            obtain rfl := own_len hown3
            refine ⟨i + 1, by go_num, by omega, ?_⟩
            rw [HF2.out]
            refine ⟨?_, hbk.out.kept hoc.out hga (by decide), below_grown_own q2.out hoc.out hga q2.out.size⟩
            unfold So
            rw [scs_append, show (m ++ [(y, z)]).length = m.length + 1 by simp]
            exact hown3
          case measure => simp [intOf]; omega
      · obtain rfl : i = l.length := by omega
        have HTL : Hid ((l.take l.length).filter (fun y => y.1 != a) = l.filter fun y => y.1 != a) := by rw [Hid, List.take_length]
        rw [HTL.out] at HST hml ⊢
        clear hst
        go_wp2_with fail
        go_ret
        exact ⟨A1, c1, rfl, HST.out.own.sc, HST.out.below⟩
  | wr a b =>
    unfold pnC at HB0 HR0 q0 b0 ⊢
    have c0 : (w.alloc (.cells #[.int .i64 a, .bool false, .string (st b)] 111)).cell? ⟨w.heap.size, 0, none⟩ = some (.int .i64 a) := b0.cell 0
    have e1 : (w.alloc (.cells #[.int .i64 a, .bool false, .string (st b)] 111)).heap.size = w.heap.size + 1 := by simp
    go_enter Tryz.func44, Tryz.ntmps44
    go_wp2_with fail
    refine (rfind_any _ l a _ HR0.out hl).mono ?_
    rintro e w1 ⟨rfl, rfl⟩
    have S0 : DnSt w ((w.alloc (.cells #[.int .i64 a, .bool false, .string (st b)] 111)).alloc (.cells #[] 134)) (.wr a b) (.slice (some ⟨w.heap.size + 1, 0, none⟩) 0 0) [] :=
      ⟨So.made _ _ (by simp) (by simp), b0.alloc _, q0.alloc q0.size _⟩
    clear HR0 HB0 b0 c0
    have HLB2 : Hid (((lookL l a).getD []).length ≤ 1099511627776) := HLB.out
    obtain ⟨O, hO⟩ : ∃ O, (lookL l a).getD [] = O := ⟨_, rfl⟩
    rw [hO] at HLB2
    rw [hO]
    obtain ⟨U, hU⟩ : ∃ U, (lookL l a).isSome = U := ⟨_, rfl⟩
    rw [hU]
    have HOO := Lib.hid hO
    have hOl : O.length ≤ 1099511627776 := HLB2.out
    clear hO hU
    go_wp2_with fail
    generalize hW : (w.alloc (.cells #[.int .i64 a, .bool false, .string (st b)] 111)).alloc (.cells #[] 134) = W at *
    clear hW
    go_loopw [9, 10] (fun sv iv wr => ∃ (i : Nat), iv = .int .i64 (i : Int) ∧ i ≤ l.length ∧ DnSt w wr (.wr a b) sv ((l.take i).filter fun y => y.1 != a)) (fun _ iv _ => l.length - (intOf iv).toNat)
    case atStart => exact ⟨0, rfl, by omega, S0⟩
    case round =>
      clear S0
      obtain ⟨i, rfl, hi, hst⟩ := hrel
      have HST := Lib.hid hst
      obtain ⟨A1, k1, c1, rfl⟩ := own_slice hst.own
      obtain rfl := own_len hst.own
      have hml : ((l.take i).filter fun y => y.1 != a).length ≤ l.length := Nat.le_trans (List.length_filter_le _ _) (by rw [List.length_take]; omega)
      have p0 : wr.cell? ⟨w.heap.size, 0, none⟩ = some (.int .i64 a) := hst.blk.cell 0
      have p1 : wr.cell? ⟨w.heap.size, 1, none⟩ = some (.bool false) := hst.blk.cell 1
      have p2 : wr.cell? ⟨w.heap.size, 2, none⟩ = some (.string (st b)) := hst.blk.cell 2
      have hwl : w.heap.size < wr.heap.size := hst.blk.lt
      by_cases hil : i < l.length
      · obtain ⟨b', o, rfl, hbs, hc⟩ := HA.out (by omega)
        have d0 : wr.cell? ⟨b', o + i * 2, none⟩ = some (.int .i64 l[i].1) := (hst.below.cell (p := ⟨b', o + i * 2, none⟩) hbs).trans (hc i hil).1
        have d1 : wr.cell? ⟨b', o + i * 2 + 1, none⟩ = some (.string (st l[i].2)) := (hst.below.cell (p := ⟨b', o + i * 2 + 1, none⟩) hbs).trans (hc i hil).2
        have HFS := Lib.hid (filter_take_succ hil a)
        generalize l[i] = x at *
        obtain ⟨y, z⟩ := x
        simp only at d0 d1
        obtain ⟨m, hm⟩ : ∃ m, (l.take i).filter (fun y => y.1 != a) = m := ⟨_, rfl⟩
        rw [hm] at HFS HST hml ⊢
        have hsz := hst.below.size
        clear hc hst hm
        by_cases hya : y = a
        · have HF2 : Hid ((l.take (i + 1)).filter (fun y => y.1 != a) = m) := by rw [Hid, HFS.out, if_pos hya, List.append_nil]
          have hb : (y != a) = false := by simp [hya]
          clear HFS hya
          go_wp2_with fail
          go_quiet (fail)
          go_wp2_with fail
          go_roundw
          case rel => exact ⟨i + 1, by go_num, by omega, by rw [HF2.out]; exact ⟨HST.out.own.later (below_drewN (Below.refl _ _) _), HST.out.blk.drewN _, below_drewN HST.out.below _⟩⟩
          case measure => simp [intOf]; omega
        · have HF2 : Hid ((l.take (i + 1)).filter (fun y => y.1 != a) = m ++ [(y, z)]) := by rw [Hid, HFS.out, if_neg hya]
          have hb : (y != a) = true := by simpa using hya
          clear HFS hya
          go_wp2_with fail
          go_quiet (fail)
          have HOW : Hid (So (wr.drewN nq) w.heap.size (.slice A1 m.length c1) m) := HST.out.own
          have HBK : Hid (Blk (wr.drewN nq) w.heap.size 111 (pnC (.wr a b))) := HST.out.blk
          have HBL : Hid (Below w.heap.size w (wr.drewN nq)) := below_drewN HST.out.below _
          have d0 : (wr.drewN nq).cell? ⟨b', o + i * 2, none⟩ = some (.int .i64 y) := d0
          have d1 : (wr.drewN nq).cell? ⟨b', o + i * 2 + 1, none⟩ = some (.string (st z)) := d1
          generalize wr.drewN nq = W2 at *
          have hblt : b' < W2.heap.size := World.block_lt_of_cell? W2 _ d0
          have qa : Below W2.heap.size W2 (W2.alloc (.cells #[.int .i64 y, .string (st z)] 134)) := (Below.refl _ _).alloc (Nat.le_refl _) _
          have hoc := Lib.hid (HOW.out.later qa)
          have hbk := Lib.hid (HBK.out.later qa)
          have q2 := Lib.hid (HBL.out.trans (qa.mono HBL.out.size))
          have hszz : w.heap.size ≤ (W2.alloc (.cells #[.int .i64 y, .string (st z)] 134)).heap.size := q2.out.size
          go_wp2_with (at_builtin; refine wpList_append_sl _ rfl (.tmp 34) (.tmp 39) elemSec rfl hoc.out (Sl.newsec (S := fun _ => True) _ (y, z) rfl trivial) rfl rfl (scs_one _) (by simp only [maxLen]; omega) (by omega) hszz ?_; intro A3 k3 c3 w3 hown3 hga hat3)
          go_roundw
          case rel =>
            obtain rfl := own_len hown3
            refine ⟨i + 1, by go_num, by omega, ?_⟩
            rw [HF2.out]
            refine ⟨?_, hbk.out.kept hoc.out hga (by decide), below_grown_own q2.out hoc.out hga q2.out.size⟩
            unfold So
            rw [scs_append, show (m ++ [(y, z)]).length = m.length + 1 by simp]
            exact hown3
          case measure => simp [intOf]; omega
      · obtain rfl : i = l.length := by omega
        have HTL : Hid ((l.take l.length).filter (fun y => y.1 != a) = l.filter fun y => y.1 != a) := by rw [Hid, List.take_length]
        rw [HTL.out] at HST hml ⊢
        clear hst
        have hml2 : (l.filter fun y => y.1 != a).length ≤ 1000000 := by omega
        have HM : Hid (rdL l (.wr a b) n = (l.filter fun y => y.1 != a) ++ [(a, tornB b O n)]) := by rw [Hid, ← HOO.out]; rfl
        generalize (l.filter fun y => y.1 != a) = m at *
        have hbl : b.length ≤ 1099511627776 := HPB.out
        have hcase : (n < 0 ∧ b = []) ∨ (n < 0 ∧ b ≠ [] ∧ O = []) ∨ (n < 0 ∧ b ≠ [] ∧ O ≠ []) ∨ ∃ N : Nat, n = (N : Int) ∧ (b.length ≤ N ∨ N < b.length ∧ O.length ≤ N ∨ N < b.length ∧ N < O.length) := by
          by_cases h0 : n < 0
          · by_cases h1 : b = []
            · exact .inl ⟨h0, h1⟩
            · by_cases h2 : O = []
              · exact .inr (.inl ⟨h0, h1, h2⟩)
              · exact .inr (.inr (.inl ⟨h0, h1, h2⟩))
          · exact .inr (.inr (.inr ⟨n.toNat, by omega, by omega⟩))
        rcases hcase with ⟨h0, rfl⟩ | ⟨h0, h1, rfl⟩ | ⟨h0, h1, h2⟩ | ⟨N, rfl, h1 | ⟨h1, h2⟩ | ⟨h1, h2⟩⟩
        · have hz : n.toNat = 0 := by omega
          have HT : Hid (tornB [] O n = []) := by unfold tornB; rw [Hid, hz]; simp
          clear hz
          have qa := (Below.refl wr.heap.size wr).alloc (Nat.le_refl _) (.cells #[.int .i64 a, .string (st ([]))] 134)
          have hoc := Lib.hid (HST.out.own.later qa)
          have q2 := Lib.hid (HST.out.below.trans (qa.mono HST.out.below.size))
          have hszz : w.heap.size ≤ (wr.alloc (.cells #[.int .i64 a, .string (st ([]))] 134)).heap.size := q2.out.size
          go_wp2_with (at_builtin; refine wpList_append_sl _ rfl (.tmp 64) (.tmp 69) elemSec rfl hoc.out (Sl.newsec (S := fun _ => True) _ (a, []) rfl trivial) rfl rfl (scs_one _) (by simp only [maxLen]; omega) (by omega) hszz ?_; intro A3 k3 c3 w3 hown3 hga hat3)
          go_ret
          obtain rfl := own_len hown3
          exact rdone_fin HT.out HM.out hown3 (below_grown_own q2.out hoc.out hga q2.out.size)
        · have hz : n.toNat = 0 := by omega
          have hbp : 0 < b.length := List.length_pos_iff.2 h1
          have HT : Hid (tornB b [] n = []) := by unfold tornB; rw [Hid, hz, if_pos hbp]; simp
          have i1 : (0 : Int) < (b.length : Int) := by omega
          have i4 : (0 : Int) ≤ (b.length : Int) := by omega
          clear hz
          have qa := (Below.refl wr.heap.size wr).alloc (Nat.le_refl _) (.cells #[.int .i64 a, .string (st ([]))] 134)
          have hoc := Lib.hid (HST.out.own.later qa)
          have q2 := Lib.hid (HST.out.below.trans (qa.mono HST.out.below.size))
          have hszz : w.heap.size ≤ (wr.alloc (.cells #[.int .i64 a, .string (st ([]))] 134)).heap.size := q2.out.size
          go_wp2_with (at_builtin; refine wpList_append_sl _ rfl (.tmp 64) (.tmp 69) elemSec rfl hoc.out (Sl.newsec (S := fun _ => True) _ (a, []) rfl trivial) rfl rfl (scs_one _) (by simp only [maxLen]; omega) (by omega) hszz ?_; intro A3 k3 c3 w3 hown3 hga hat3)
          go_ret
          obtain rfl := own_len hown3
          exact rdone_fin HT.out HM.out hown3 (below_grown_own q2.out hoc.out hga q2.out.size)
        · have hz : n.toNat = 0 := by omega
          have hbp : 0 < b.length := List.length_pos_iff.2 h1
          have hop : 0 < O.length := List.length_pos_iff.2 h2
          have HT : Hid (tornB b O n = O) := by unfold tornB; rw [Hid, hz, if_pos hbp]; simp
          have i1 : (0 : Int) < (b.length : Int) := by omega
          have i4 : (0 : Int) ≤ (b.length : Int) := by omega
          have i2 : (0 : Int) < (O.length : Int) := by omega
          have i5 : (0 : Int) ≤ (O.length : Int) := by omega
          have hdt : O.take O.length = O := List.take_length
          have g1 : ¬ 9223372036854775807 < O.length := by omega
          clear hz
          have qa := (Below.refl wr.heap.size wr).alloc (Nat.le_refl _) (.cells #[.int .i64 a, .string (st (O))] 134)
          have hoc := Lib.hid (HST.out.own.later qa)
          have q2 := Lib.hid (HST.out.below.trans (qa.mono HST.out.below.size))
          have hszz : w.heap.size ≤ (wr.alloc (.cells #[.int .i64 a, .string (st (O))] 134)).heap.size := q2.out.size
          go_wp2_with (at_builtin; refine wpList_append_sl _ rfl (.tmp 64) (.tmp 69) elemSec rfl hoc.out (Sl.newsec (S := fun _ => True) _ (a, O) rfl trivial) rfl rfl (scs_one _) (by simp only [maxLen]; omega) (by omega) hszz ?_; intro A3 k3 c3 w3 hown3 hga hat3)
          go_ret
          obtain rfl := own_len hown3
          exact rdone_fin HT.out HM.out hown3 (below_grown_own q2.out hoc.out hga q2.out.size)
        · have HT : Hid (tornB b O (N : Int) = b) := by unfold tornB; rw [Hid, Int.toNat_natCast, if_neg (by omega)]
          have i1 : ¬ (N : Int) < (b.length : Int) := by omega
          have i0 : ¬ (N : Int) < 0 := by omega
          have qa := (Below.refl wr.heap.size wr).alloc (Nat.le_refl _) (.cells #[.int .i64 a, .string (st (b))] 134)
          have hoc := Lib.hid (HST.out.own.later qa)
          have q2 := Lib.hid (HST.out.below.trans (qa.mono HST.out.below.size))
          have hszz : w.heap.size ≤ (wr.alloc (.cells #[.int .i64 a, .string (st (b))] 134)).heap.size := q2.out.size
          go_wp2_with (at_builtin; refine wpList_append_sl _ rfl (.tmp 64) (.tmp 69) elemSec rfl hoc.out (Sl.newsec (S := fun _ => True) _ (a, b) rfl trivial) rfl rfl (scs_one _) (by simp only [maxLen]; omega) (by omega) hszz ?_; intro A3 k3 c3 w3 hown3 hga hat3)
          go_ret
          obtain rfl := own_len hown3
          exact rdone_fin HT.out HM.out hown3 (below_grown_own q2.out hoc.out hga q2.out.size)
        · have HT : Hid (tornB b O (N : Int) = b.take N) := by unfold tornB; rw [Hid, Int.toNat_natCast, if_pos h1, List.drop_eq_nil_of_le (by omega), List.append_nil]
          have i1 : (N : Int) < (b.length : Int) := by omega
          have i0 : ¬ (N : Int) < 0 := by omega
          have i2 : ¬ (N : Int) < (O.length : Int) := by omega
          have i3 : (0 : Int) ≤ (N : Int) := by omega
          have i4 : (N : Int) ≤ (b.length : Int) := by omega
          have qa := (Below.refl wr.heap.size wr).alloc (Nat.le_refl _) (.cells #[.int .i64 a, .string (st (b.take N))] 134)
          have hoc := Lib.hid (HST.out.own.later qa)
          have q2 := Lib.hid (HST.out.below.trans (qa.mono HST.out.below.size))
          have hszz : w.heap.size ≤ (wr.alloc (.cells #[.int .i64 a, .string (st (b.take N))] 134)).heap.size := q2.out.size
          go_wp2_with (at_builtin; refine wpList_append_sl _ rfl (.tmp 64) (.tmp 69) elemSec rfl hoc.out (Sl.newsec (S := fun _ => True) _ (a, b.take N) rfl trivial) rfl rfl (scs_one _) (by simp only [maxLen]; omega) (by omega) hszz ?_; intro A3 k3 c3 w3 hown3 hga hat3)
          go_ret
          obtain rfl := own_len hown3
          exact rdone_fin HT.out HM.out hown3 (below_grown_own q2.out hoc.out hga q2.out.size)
        · have HT : Hid (tornB b O (N : Int) = b.take N ++ O.drop N) := by unfold tornB; rw [Hid, Int.toNat_natCast, if_pos h1]
          have i1 : (N : Int) < (b.length : Int) := by omega
          have i0 : ¬ (N : Int) < 0 := by omega
          have i2 : (N : Int) < (O.length : Int) := by omega
          have i3 : (0 : Int) ≤ (N : Int) := by omega
          have i4 : (N : Int) ≤ (b.length : Int) := by omega
          have i5 : (N : Int) ≤ (O.length : Int) := by omega
          have hdt : (O.drop N).take (O.length - N) = O.drop N := List.take_of_length_le (by simp)
          have g1 : ¬ 9223372036854775807 < (b.take N).length + (O.drop N).length := by rw [List.length_take, List.length_drop]; omega
          have g2 : ¬ 9223372036854775807 < min N b.length + (O.length - N) := by omega
          have qa := (Below.refl wr.heap.size wr).alloc (Nat.le_refl _) (.cells #[.int .i64 a, .string (st (b.take N ++ O.drop N))] 134)
          have hoc := Lib.hid (HST.out.own.later qa)
          have q2 := Lib.hid (HST.out.below.trans (qa.mono HST.out.below.size))
          have hszz : w.heap.size ≤ (wr.alloc (.cells #[.int .i64 a, .string (st (b.take N ++ O.drop N))] 134)).heap.size := q2.out.size
          go_wp2_with (at_builtin; refine wpList_append_sl _ rfl (.tmp 64) (.tmp 69) elemSec rfl hoc.out (Sl.newsec (S := fun _ => True) _ (a, b.take N ++ O.drop N) rfl trivial) rfl rfl (scs_one _) (by simp only [maxLen]; omega) (by omega) hszz ?_; intro A3 k3 c3 w3 hown3 hga hat3)
          go_ret
          obtain rfl := own_len hown3
          exact rdone_fin HT.out HM.out hown3 (below_grown_own q2.out hoc.out hga q2.out.size)
end Go.Proofs.YtojlldalhhibmaaGreatDoor

namespace Go.Proofs.YtojlldalhhibmaaGreatDoor
open Go Go.RowKit
set_option linter.unusedVariables false

def pncs (l : List Pnd) : List Value := l.flatMap fun p => (pnC p).toList
theorem pnC_len (p : Pnd) : (pnC p).toList.length = 3 := by cases p <;> rfl
theorem pncs_len (l : List Pnd) : (pncs l).length = l.length * 3 := by
  induction l with
  | nil => rfl
  | cons r rs ih => simp only [pncs, List.flatMap_cons, List.length_append, pnC_len, List.length_cons] at ih ⊢; omega
theorem pncs_append (a b : List Pnd) : pncs (a ++ b) = pncs a ++ pncs b := by simp [pncs]
theorem pncs_one (l : List Pnd) : ∀ u ∈ pncs l, u.oneCell' = true := by
  intro u hu
  obtain ⟨r, _, hu⟩ := List.mem_flatMap.1 hu
  cases r <;> simp [pnC] at hu <;> rcases hu with rfl | rfl | rfl <;> rfl
theorem pncs_at {l : List Pnd} {j : Nat} (h : j < l.length) {k : Nat} (hk : k < 3) : (pncs l)[j * 3 + k]? = (pnC l[j])[k]? := by
  induction l generalizing j with
  | nil => simp at h
  | cons r rs ih =>
    rcases j with _ | j
    · simp only [pncs, List.flatMap_cons, Nat.zero_mul, Nat.zero_add, List.getElem_cons_zero]
      rw [List.getElem?_append_left (by rw [pnC_len]; omega), Array.getElem?_toList]
    · have := ih (j := j) (by simpa using h)
      simp only [pncs, List.flatMap_cons, List.getElem_cons_succ] at this ⊢
      rw [List.getElem?_append_right (by rw [pnC_len]; omega), pnC_len, ← this]
      congr 1
      omega
/-- The slice value v reads as the pending writes l. -/
def Pc (w : World) (v : Value) (l : List Pnd) : Prop := KSl 111 3 w v l.length (pncs l)
theorem Pc.nil (w : World) : Pc w (.slice none 0 0) [] := KSl.nil
theorem Pc.later {w w' : World} {v : Value} {l : List Pnd} (h : Pc w v l) (hb : Below w.heap.size w w') : Pc w' v l := KSl.later h hb
theorem Pc.at {w : World} {v : Value} {l : List Pnd} (h : Pc w v l) : ∃ A c, v = .slice A l.length c ∧ l.length ≤ c ∧ c ≤ maxLen ∧
    (0 < l.length → ∃ b o, A = some ⟨b, o, none⟩ ∧ b < w.heap.size ∧ ∀ j (hj : j < l.length) k (hk : k < 3) x, (pnC l[j])[k]? = some x → w.cell? ⟨b, o + j * 3 + k, none⟩ = some x) := by
  obtain ⟨_, A, c, h2, h3, h4, h5, h6⟩ := KSl.lt h
  refine ⟨A, c, h2, h3, h4, fun hn => ?_⟩
  obtain ⟨b, o, ha, hs, hc⟩ := h6 hn
  refine ⟨b, o, ha, hs, fun j hj k hk x hx => ?_⟩
  rw [Nat.add_assoc]
  exact hc _ _ ((pncs_at hj hk).trans hx)
theorem pendingTy : StructTy Tryz.prog 111 3 := ⟨⟨_, Tryz.underlying111⟩, by kernel_rfl⟩
theorem elemPnd : Elem Tryz.prog 31 111 (.agg #[.int .i64 0, .bool false, .string ⟨#[]⟩]) 3 32 := Elem.mk' Tryz.underlying31 (by kernel_rfl) rfl (by omega)
theorem Sl.newpnd {S : Nat → Prop} (w : World) (p : Pnd) {g : Nat} (hg : g = w.heap.size) (hS : S g) :
    Sl S (w.alloc (.cells (pnC p) 111)) 3 (.slice (some ⟨g, 0, none⟩) 1 1) 1 (pncs [p]) := by
  subst hg
  refine ⟨by rw [pncs_len]; rfl, _, 1, rfl, by simp, by simp [maxLen], (fun h => by cases h), fun _ => ⟨_, 0, rfl, hS, fun j v hu => ?_⟩⟩
  rw [World.cell?_alloc_new, Nat.zero_add]
  simpa [pncs] using hu
def Po (w : World) (B : Nat) (v : Value) (l : List Pnd) : Prop := w.ownsRow B 111 3 v l.length (pncs l)
theorem Po.pc {w : World} {B : Nat} {v : Value} {l : List Pnd} (h : Po w B v l) : Pc w v l := KSl.of_own (by omega) h
theorem Po.made (w : World) (B : Nat) (hB : B ≤ w.heap.size) {g : Nat} (hg : g = w.heap.size) : Po (w.alloc (.cells #[] 111)) B (.slice (some ⟨g, 0, none⟩) 0 0) [] := by
  subst hg
  exact World.ownsRow_made w #[] 0 hB (by simp [maxLen]) (by simp)

/-- A disk of the document's. -/
structure RDk where
  size : Int
  limit : Int
  view : List Sec
  ground : List Sec
  pend : List Pnd
/-- The value v is the document's disk R. -/
def Rk (w : World) (v : Value) (R : RDk) : Prop := ∃ v1 v2 v3, v = .agg #[.int .i64 R.size, .int .i64 R.limit, v1, v2, v3] ∧ Sc w v1 R.view ∧ Sc w v2 R.ground ∧ Pc w v3 R.pend
theorem Rk.later {w w' : World} {v : Value} {R : RDk} (h : Rk w v R) (hb : Below w.heap.size w w') : Rk w' v R := by
  obtain ⟨v1, v2, v3, rfl, h1, h2, h3⟩ := h
  exact ⟨v1, v2, v3, rfl, h1.later hb, h2.later hb, h3.later hb⟩
def Pnd.n : Pnd → Int
  | .wr _ b => b.length
  | .fr _ => 0
/-- The disk behind a write. -/
def RDk.put (R : RDk) (p : Pnd) : RDk := { R with pend := R.pend ++ [p], view := rdL R.view p p.n }
end Go.Proofs.YtojlldalhhibmaaGreatDoor

namespace Go.Proofs.YtojlldalhhibmaaGreatDoor
open Go Go.RowKit
set_option linter.unusedVariables false

theorem pnC_eq (p : Pnd) : ∃ a f b, pnC p = #[.int .i64 a, .bool f, .string (st b)] ∧ (b.length : Int) = p.n ∧ (∀ a' b', p = .wr a' b' → b = b') := by
  cases p with
  | wr a b => exact ⟨a, false, b, rfl, rfl, fun a' b' h => by cases h; rfl⟩
  | fr a => exact ⟨a, true, [], rfl, rfl, fun a' b' h => by cases h⟩

/-- put's three blocks: the disk, the write, the result. -/
structure PuSt (w : World) (D pc Z : Array Value) (wr : World) : Prop where
  d : Blk wr w.heap.size 33 D
  p : Blk wr (w.heap.size + 1) 111 pc
  r : Blk wr (w.heap.size + 1 + 1) 33 Z
  below : Below w.heap.size w wr
  size : w.heap.size + 1 + 1 + 1 ≤ wr.heap.size
section
variable {w wr w' : World} {D pc Z : Array Value}
theorem PuSt.alloc (h : PuSt w D pc Z wr) (o : Obj) : PuSt w D pc Z (wr.alloc o) := ⟨h.d.alloc o, h.p.alloc o, h.r.alloc o, h.below.alloc h.below.size o, by have := h.size; simp; omega⟩
theorem PuSt.to (h : PuSt w D pc Z wr) (hb : Below (w.heap.size + 1 + 1 + 1) wr w') : PuSt w D pc Z w' :=
  ⟨h.d.below hb (by omega), h.p.below hb (by omega), h.r.below hb (by omega), h.below.trans (hb.mono (by omega)), Nat.le_trans h.size hb.size⟩
theorem PuSt.start (w : World) (D pc Z : Array Value) : PuSt w D pc Z (((w.alloc (.cells D 33)).alloc (.cells pc 111)).alloc (.cells Z 33)) :=
  ⟨((Blk.new w _ _).alloc _).alloc _, by have := (Blk.new (w.alloc (.cells D 33)) 111 pc).alloc (.cells Z 33); simpa using this,
   by have := Blk.new ((w.alloc (.cells D 33)).alloc (.cells pc 111)) 33 Z; simpa using this,
   (((Below.refl _ _).alloc (Nat.le_refl _) _).alloc (by simp) _).alloc (by simp; omega) _, by simp⟩
/-- Behind an append to a slice that lies beyond. -/
theorem PuSt.app (h : PuSt w D pc Z wr) {e : TypeId} {size n : Nat} {v : Value} {xs : List Value} (hown : wr.ownsRow (w.heap.size + 1 + 1 + 1) e size v n xs) (hg : wr.grownBy w' v.ownBlock) : PuSt w D pc Z w' :=
  h.to ((Below.refl _ _).grown hg h.size fun k hk => (hown.lt k hk).1)
theorem PuSt.putD (h : PuSt w D pc Z wr) (i : Nat) (u : Value) : PuSt w (D.setIfInBounds i u) pc Z (wr.setCell ⟨w.heap.size, i, none⟩ u) :=
  ⟨h.d.put i u, h.p.far (by simp) _, h.r.far (by simp; omega) _, h.below.setCell (Nat.le_refl _) _, by simpa using h.size⟩
end
theorem Blk.put5 {w : World} {g : Nat} {t : TypeId} {a b c d e : Value} (h : Blk w g t #[a, b, c, d, e]) (x y z u v : Value) :
    Blk (((((w.setCell ⟨g, 0, none⟩ x).setCell ⟨g, 1, none⟩ y).setCell ⟨g, 2, none⟩ z).setCell ⟨g, 3, none⟩ u).setCell ⟨g, 4, none⟩ v) g t #[x, y, z, u, v] := ((((h.put 0 x).put 1 y).put 2 z).put 3 u).put 4 v
theorem below_put5 {B : Nat} {w0 w : World} {g : Nat} (h : Below B w0 w) (hg : B ≤ g) (x y z u v : Value) : Below B w0 (((((w.setCell ⟨g, 0, none⟩ x).setCell ⟨g, 1, none⟩ y).setCell ⟨g, 2, none⟩ z).setCell ⟨g, 3, none⟩ u).setCell ⟨g, 4, none⟩ v) :=
  ((((h.setCell hg _).setCell hg _).setCell hg _).setCell hg _).setCell hg _
/-- Where only blocks of another kind turned: five cells are put. -/
theorem KSl.put5 {e t : TypeId} {size n : Nat} {w : World} {v0 : Value} {xs : List Value} (h : KSl e size w v0 n xs) {g : Nat} {cs : Array Value} (hb : Blk w g t cs) (hne : t ≠ e) (x y z u v : Value) :
    KSl e size (((((w.setCell ⟨g, 0, none⟩ x).setCell ⟨g, 1, none⟩ y).setCell ⟨g, 2, none⟩ z).setCell ⟨g, 3, none⟩ u).setCell ⟨g, 4, none⟩ v) v0 n xs := by
  have hn : ∀ {w' : World} {cs' : Array Value}, Blk w' g t cs' → kindAt w' g ≠ some (some e) := fun h e' => hne (by rw [kind_blk h] at e'; injection e' with e'; injection e')
  have b0 := hb.put 0 x
  have b1 := b0.put 1 y
  have b2 := b1.put 2 z
  have b3 := b2.put 3 u
  exact ((((h.setCell (p := ⟨g, 0, none⟩) (hn hb) x).setCell (p := ⟨g, 1, none⟩) (hn b0) y).setCell (p := ⟨g, 2, none⟩) (hn b1) z).setCell (p := ⟨g, 3, none⟩) (hn b2) u).setCell (p := ⟨g, 4, none⟩) (hn b3) v
theorem rdiskTy : StructTy Tryz.prog 33 5 := ⟨⟨_, Tryz.underlying33⟩, by kernel_rfl⟩
/-- put's last steps. -/
theorem rkput_fin {w w7 : World} {R : RDk} {p : Pnd} {pc : Array Value} {A1 A2 A6 A7 : Option Addr} {c1 c2 k6 c6 c7 : Nat} {b : List UInt8} {z0 z1 z2 z3 z4 : Value} (hbn : (b.length : Int) = p.n)
    (HV2 : Sc w (.slice A2 R.ground.length c2) R.ground)
    (s7 : PuSt w #[.int .i64 R.size, .int .i64 R.limit, .slice A1 R.view.length c1, .slice A2 R.ground.length c2, .slice A6 k6 c6] pc #[z0, z1, z2, z3, z4] w7)
    (hp : KSl 111 3 w7 (.slice A6 k6 c6) (([] : List Pnd).length + R.pend.length + 1) (pncs [] ++ pncs R.pend ++ pncs [p]))
    (hv : Sc w7 (.slice A7 (rdL R.view p (b.length : Int)).length c7) (rdL R.view p (b.length : Int))) :
    let w9 := ((((((w7.setCell ⟨w.heap.size, 2, none⟩ (.slice A7 (rdL R.view p (b.length : Int)).length c7)).setCell ⟨w.heap.size + 1 + 1, 0, none⟩ (.int .i64 R.size)).setCell ⟨w.heap.size + 1 + 1, 1, none⟩ (.int .i64 R.limit)).setCell ⟨w.heap.size + 1 + 1, 2, none⟩ (.slice A7 (rdL R.view p (b.length : Int)).length c7)).setCell ⟨w.heap.size + 1 + 1, 3, none⟩ (.slice A2 R.ground.length c2)).setCell ⟨w.heap.size + 1 + 1, 4, none⟩ (.slice A6 k6 c6))
    Blk w9 (w.heap.size + 1 + 1) 33 #[.int .i64 R.size, .int .i64 R.limit, .slice A7 (rdL R.view p (b.length : Int)).length c7, .slice A2 R.ground.length c2, .slice A6 k6 c6] ∧
    Rk w9 (.agg #[.int .i64 R.size, .int .i64 R.limit, .slice A7 (rdL R.view p (b.length : Int)).length c7, .slice A2 R.ground.length c2, .slice A6 k6 c6]) (R.put p) ∧ Below w.heap.size w w9 := by
  intro w9
  have s8 := s7.putD 2 (.slice A7 (rdL R.view p (b.length : Int)).length c7)
  have k7 := kind_blk s7.d
  have hq : Below w.heap.size w w9 := below_put5 s8.below (by omega) _ _ _ _ _
  have hv8 : Sc (w7.setCell ⟨w.heap.size, 2, none⟩ (.slice A7 (rdL R.view p (b.length : Int)).length c7)) _ _ := KSl.setCell hv (p := ⟨w.heap.size, 2, none⟩) (by rw [k7]; decide) _
  have hp8 := hp.setCell (p := ⟨w.heap.size, 2, none⟩) (by rw [k7]; decide) (.slice A7 (rdL R.view p (b.length : Int)).length c7)
  refine ⟨s8.r.put5 _ _ _ _ _, ⟨_, _, _, rfl, ?_, HV2.later hq, ?_⟩, hq⟩
  · have := KSl.put5 hv8 s8.r (by decide) (.int .i64 R.size) (.int .i64 R.limit) (.slice A7 (rdL R.view p (b.length : Int)).length c7) (.slice A2 R.ground.length c2) (.slice A6 k6 c6)
    unfold RDk.put
    rw [← hbn]
    exact this
  · have := KSl.put5 hp8 s8.r (by decide) (.int .i64 R.size) (.int .i64 R.limit) (.slice A7 (rdL R.view p (b.length : Int)).length c7) (.slice A2 R.ground.length c2) (.slice A6 k6 c6)
    have e1 : (R.put p).pend = R.pend ++ [p] := rfl
    unfold Pc
    rw [e1, pncs_append, List.length_append]
    simpa [pncs] using this

set_option maxHeartbeats 4000000 in
set_option maxRecDepth 100000 in
theorem rkput_any (v : Value) (R : RDk) (p : Pnd) (w : World) (hr : Rk w v R) (hl : R.view.length ≤ 1000000) (hq : R.pend.length ≤ 1000000) (hpb : match p with | .wr _ b => b.length ≤ 1099511627776 | .fr _ => True) (hlb : ((lookL R.view (pnAt p)).getD []).length ≤ 1099511627776) :
    Calls Tryz.prog 60 #[v, .agg (pnC p)] w fun e w' => ∃ v', e = .returned v' ∧ Rk w' v' (R.put p) ∧ Below w.heap.size w w' := by
  obtain ⟨v1, v2, v3, rfl, hv1, hv2, hv3⟩ := hr
  obtain ⟨a, f, b, hpc, hbn, hbw⟩ := pnC_eq p
  obtain ⟨A1, c1, rfl, -, -, -⟩ := hv1.at
  obtain ⟨A2, c2, rfl, -, -, -⟩ := hv2.at
  obtain ⟨A3, c3, rfl, -, -, -⟩ := hv3.at
  have hbl : b.length ≤ 1099511627776 := by
    cases p with
    | wr a' b' => have := hbw a' b' rfl; subst this; exact hpb
    | fr a' => simp only [Pnd.n] at hbn; omega
  have HBN := Lib.hid hbn
  clear hbn hbw
  have HV1 := Lib.hid hv1
  have HV2 := Lib.hid hv2
  have HV3 := Lib.hid hv3
  have HPB := Lib.hid hpb
  have HLB := Lib.hid hlb
  have HPC := Lib.hid hpc
  rw [hpc]
  have S0 := PuSt.start w #[.int .i64 R.size, .int .i64 R.limit, .slice A1 R.view.length c1, .slice A2 R.ground.length c2, .slice A3 R.pend.length c3] #[.int .i64 a, .bool f, .string (st b)] #[.int .i64 0, .int .i64 0, .slice none 0 0, .slice none 0 0, .slice none 0 0]
  clear hv1 hv2 hv3 hpb hlb
  go_enter Tryz.func60, Tryz.ntmps60
  go_wp2_with fail
  generalize hW : ((w.alloc _).alloc _).alloc _ = W at *
  have d4 : W.cell? ⟨w.heap.size, 4, none⟩ = some (.slice A3 R.pend.length c3) := S0.d.cell 4
  have f4 : W.frozen? ⟨w.heap.size, 4, none⟩ = false := S0.d.free 4
  have p0 : W.cell? ⟨w.heap.size + 1, 0, none⟩ = some (.int .i64 a) := S0.p.cell 0
  have p1 : W.cell? ⟨w.heap.size + 1, 1, none⟩ = some (.bool f) := S0.p.cell 1
  have p2 : W.cell? ⟨w.heap.size + 1, 2, none⟩ = some (.string (st b)) := S0.p.cell 2
  have hWs := S0.size
  have l0 : w.heap.size < W.heap.size := S0.d.lt
  have l1 : w.heap.size + 1 < W.heap.size := S0.p.lt
  have n0 : ¬ w.heap.size = W.heap.size := by omega
  have n1 : ¬ w.heap.size + 1 = W.heap.size := by omega
  have HS := Lib.hid S0
  clear S0 hW
  go_region_law (first
    | (refine step_append_sl (W.alloc (.cells #[] 111)) (by first | exact ⟨0, rfl⟩ | exact ⟨1, rfl⟩ | exact ⟨2, rfl⟩ | exact ⟨3, rfl⟩) rfl (.tmp 5) (.tmp 7) elemPnd rfl (Po.made W (w.heap.size + 1 + 1 + 1) HS.out.size rfl) (HV3.out.later (HS.out.alloc (.cells #[] 111)).below) rfl rfl (pncs_one _) (by simp only [maxLen]; simp; omega) (by simp; omega) (HS.out.alloc (.cells #[] 111)).size ?_; intro A5 k5 c5 w5 hown5 hg5; have s5 := Lib.hid ((HS.out.alloc (.cells #[] 111)).app (Po.made W (w.heap.size + 1 + 1 + 1) HS.out.size rfl) hg5); have xl := s5.out.d.lt; have xm := s5.out.p.lt; have x4 := s5.out.d.cell 4; have xf := s5.out.d.free 4; have x0 := s5.out.p.cell 0; have x1 := s5.out.p.cell 1; have x2 := s5.out.p.cell 2; simp at x4 x0 x1 x2)
    | (refine step_append_sl ((W.alloc (.cells #[] 111)).alloc (.cells #[.int .i64 a, .bool f, .string (st b)] 111)) (by first | exact ⟨0, rfl⟩ | exact ⟨1, rfl⟩ | exact ⟨2, rfl⟩ | exact ⟨3, rfl⟩) rfl (.tmp 5) (.tmp 7) elemPnd rfl (World.ownsRow.alloc (Po.made W (w.heap.size + 1 + 1 + 1) HS.out.size rfl) (.cells #[.int .i64 a, .bool f, .string (st b)] 111)) (HV3.out.later ((HS.out.alloc (.cells #[] 111)).alloc (.cells #[.int .i64 a, .bool f, .string (st b)] 111)).below) rfl rfl (pncs_one _) (by simp only [maxLen]; simp; omega) (by simp; omega) ((HS.out.alloc (.cells #[] 111)).alloc (.cells #[.int .i64 a, .bool f, .string (st b)] 111)).size ?_; intro A5 k5 c5 w5 hown5 hg5; have s5 := Lib.hid (((HS.out.alloc (.cells #[] 111)).alloc (.cells #[.int .i64 a, .bool f, .string (st b)] 111)).app (World.ownsRow.alloc (Po.made W (w.heap.size + 1 + 1 + 1) HS.out.size rfl) (.cells #[.int .i64 a, .bool f, .string (st b)] 111)) hg5); have xl := s5.out.d.lt; have xm := s5.out.p.lt; have x4 := s5.out.d.cell 4; have xf := s5.out.d.free 4; have x0 := s5.out.p.cell 0; have x1 := s5.out.p.cell 1; have x2 := s5.out.p.cell 2; simp at x4 x0 x1 x2; have HN5 : Hid (Sl (fun x => x = W.heap.size + 1) w5 3 (.slice (some ⟨W.heap.size + 1, 0, none⟩) 1 1) 1 (pncs [p])) := Sl.grown (by have := Sl.newpnd (S := fun x => x = W.heap.size + 1) (W.alloc (.cells #[] 111)) p (g := W.heap.size + 1) (by simp) rfl; rw [HPC.out] at this; exact this) hg5 (fun x hx => by subst hx; simp) (fun x hx => by subst hx; simp [Value.ownBlock]))
    | (refine step_append_sl ((W.alloc (.cells #[.int .i64 a, .bool f, .string (st b)] 111)).alloc (.cells #[] 111)) (by first | exact ⟨0, rfl⟩ | exact ⟨1, rfl⟩ | exact ⟨2, rfl⟩ | exact ⟨3, rfl⟩) rfl (.tmp 5) (.tmp 7) elemPnd rfl (Po.made (W.alloc (.cells #[.int .i64 a, .bool f, .string (st b)] 111)) (w.heap.size + 1 + 1 + 1) (HS.out.alloc (.cells #[.int .i64 a, .bool f, .string (st b)] 111)).size (g := W.heap.size + 1) (by simp)) (HV3.out.later ((HS.out.alloc (.cells #[.int .i64 a, .bool f, .string (st b)] 111)).alloc (.cells #[] 111)).below) rfl rfl (pncs_one _) (by simp only [maxLen]; simp; omega) (by simp; omega) ((HS.out.alloc (.cells #[.int .i64 a, .bool f, .string (st b)] 111)).alloc (.cells #[] 111)).size ?_; intro A5 k5 c5 w5 hown5 hg5; have s5 := Lib.hid (((HS.out.alloc (.cells #[.int .i64 a, .bool f, .string (st b)] 111)).alloc (.cells #[] 111)).app (Po.made (W.alloc (.cells #[.int .i64 a, .bool f, .string (st b)] 111)) (w.heap.size + 1 + 1 + 1) (HS.out.alloc (.cells #[.int .i64 a, .bool f, .string (st b)] 111)).size (g := W.heap.size + 1) (by simp)) hg5); have xl := s5.out.d.lt; have xm := s5.out.p.lt; have x4 := s5.out.d.cell 4; have xf := s5.out.d.free 4; have x0 := s5.out.p.cell 0; have x1 := s5.out.p.cell 1; have x2 := s5.out.p.cell 2; simp at x4 x0 x1 x2; have HN5 : Hid (Sl (fun x => x = W.heap.size) w5 3 (.slice (some ⟨W.heap.size, 0, none⟩) 1 1) 1 (pncs [p])) := Sl.grown (Sl.alloc (by have := Sl.newpnd (S := fun x => x = W.heap.size) W p rfl rfl; rw [HPC.out] at this; exact this) (fun x hx => by subst hx; simp) (.cells #[] 111)) hg5 (fun x hx => by subst hx; simp; omega) (fun x hx => by subst hx; simp [Value.ownBlock]))
    | (refine step_append_sl w5 (by first | exact ⟨0, rfl⟩ | exact ⟨1, rfl⟩ | exact ⟨2, rfl⟩ | exact ⟨3, rfl⟩) rfl (.tmp 8) (.tmp 10) elemPnd rfl hown5 HN5.out rfl rfl (pncs_one [p]) (by simp only [maxLen]; simp; omega) (by simp; omega) s5.out.size ?_; intro A6 k6 c6 w6 hown6 hg6; have s6 := Lib.hid (s5.out.app hown5 hg6); have yl := s6.out.d.lt; have ym := s6.out.p.lt; have y4 := s6.out.d.cell 4; have yv := s6.out.d.cell 2; have yf := s6.out.d.free 4; have y0 := s6.out.p.cell 0; have y1 := s6.out.p.cell 1; have y2 := s6.out.p.cell 2; simp at y4 yv y0 y1 y2)
    | (refine step_append_sl (w5.alloc (.cells #[.int .i64 a, .bool f, .string (st b)] 111)) (by first | exact ⟨0, rfl⟩ | exact ⟨1, rfl⟩ | exact ⟨2, rfl⟩ | exact ⟨3, rfl⟩) rfl (.tmp 8) (.tmp 10) elemPnd rfl (World.ownsRow.alloc hown5 (.cells #[.int .i64 a, .bool f, .string (st b)] 111)) (by have := Sl.newpnd (S := fun _ => True) w5 p rfl trivial; rw [HPC.out] at this; exact this) rfl rfl (pncs_one [p]) (by simp only [maxLen]; simp; omega) (by simp; omega) (s5.out.alloc (.cells #[.int .i64 a, .bool f, .string (st b)] 111)).size ?_; intro A6 k6 c6 w6 hown6 hg6; have s6 := Lib.hid ((s5.out.alloc (.cells #[.int .i64 a, .bool f, .string (st b)] 111)).app (World.ownsRow.alloc hown5 (.cells #[.int .i64 a, .bool f, .string (st b)] 111)) hg6); have yl := s6.out.d.lt; have ym := s6.out.p.lt; have y4 := s6.out.d.cell 4; have yv := s6.out.d.cell 2; have yf := s6.out.d.free 4; have y0 := s6.out.p.cell 0; have y1 := s6.out.p.cell 1; have y2 := s6.out.p.cell 2; simp at y4 yv y0 y1 y2))
  all_goals
    go_wp2_with fail
    rw [← HPC.out]
    refine (rdone_any _ R.view p (b.length : Int) _ (HV1.out.later (s6.out.below.setCell (Nat.le_refl _) _)) hl (by unfold InI; omega) HPB.out HLB.out).mono ?_
    rintro e w7 ⟨A7, c7, rfl, hsc7, hbl7⟩
    have s7 := Lib.hid ((s6.out.putD 4 (.slice A6 k6 c6)).to (hbl7.mono (by simpa using s6.out.size)))
    have HP7 := Lib.hid ((((KSl.of_own (by omega) hown6).setCell (p := ⟨w.heap.size, 4, none⟩) (by rw [kind_blk s6.out.d]; decide) (.slice A6 k6 c6)).later hbl7))
    have HS7 := Lib.hid hsc7
    have z0 : w7.cell? ⟨w.heap.size, 0, none⟩ = some (.int .i64 R.size) := s7.out.d.cell 0
    have z1 : w7.cell? ⟨w.heap.size, 1, none⟩ = some (.int .i64 R.limit) := s7.out.d.cell 1
    have z2 : w7.cell? ⟨w.heap.size, 2, none⟩ = some (.slice A1 R.view.length c1) := s7.out.d.cell 2
    have z3 : w7.cell? ⟨w.heap.size, 3, none⟩ = some (.slice A2 R.ground.length c2) := s7.out.d.cell 3
    have z4 : w7.cell? ⟨w.heap.size, 4, none⟩ = some (.slice A6 k6 c6) := s7.out.d.cell 4
    have f2 := s7.out.d.free 2
    have r0 : w7.cell? ⟨w.heap.size + 1 + 1, 0, none⟩ = some (.int .i64 0) := s7.out.r.cell 0
    have r1 : w7.cell? ⟨w.heap.size + 1 + 1, 1, none⟩ = some (.int .i64 0) := s7.out.r.cell 1
    have r2 : w7.cell? ⟨w.heap.size + 1 + 1, 2, none⟩ = some (.slice none 0 0) := s7.out.r.cell 2
    have r3 : w7.cell? ⟨w.heap.size + 1 + 1, 3, none⟩ = some (.slice none 0 0) := s7.out.r.cell 3
    have r4 : w7.cell? ⟨w.heap.size + 1 + 1, 4, none⟩ = some (.slice none 0 0) := s7.out.r.cell 4
    have g0 := s7.out.r.free 0
    have g1 := s7.out.r.free 1
    have g2 := s7.out.r.free 2
    have g3 := s7.out.r.free 3
    have g4 := s7.out.r.free 4
    have HF := Lib.hid (rkput_fin HBN.out HV2.out s7.out HP7.out HS7.out)
    clear hsc7 hbl7 hown6 hg6 hown5 hg5 d4 f4 p0 p1 p2 l0 l1 n0 n1 x4 xf x0 x1 x2 xl xm y4 yv yf y0 y1 y2 yl ym
    go_wp2_with fail
    exact bodyPost_ret (results_cell1 rfl _ _ (w.heap.size + 1 + 1) rfl HF.out.1 rdiskTy) rfl ⟨_, rfl, HF.out.2.1, HF.out.2.2⟩
end Go.Proofs.YtojlldalhhibmaaGreatDoor
