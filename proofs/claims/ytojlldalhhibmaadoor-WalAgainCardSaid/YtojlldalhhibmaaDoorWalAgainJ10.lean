/- What the proof of WalAgain needs, part 10. -/
import Derived.Test.YtojlldalhhibmaaDoorWalAgainJ9
import Derived.Deep.RegionHeld3
import Derived.Deep.RegionWith
import Derived.SliceStrings
import Derived.Lib.SmallJoins
import Derived.ProofKit
import Derived.ReadAgain
import Derived.Below
import Derived.ChangeSame
import Derived.ChangeShapes
import Derived.Test.YtojlldalhhibmaaDoorRows
import Derived.OpenShut
import Derived.ChangeMaps5
import Derived.Deep.DeepHandedRow
import Derived.Lib.LaidTab

namespace Go.Proofs.YtojlldalhhibmaaDoor
open Go Go.RowKit
set_option linter.unusedVariables false

theorem wLook_recs {D : Dsk} (hok : D.Ok) {a : Int} {size i q : Nat} {rs : List Rcd} (hs : size ≤ 64) (h : wLook D.view a size i = some (q, rs)) : rs.length ≤ 40000 := by
  have hl := wBytes_len hok size (a + (i : Int) * size)
  unfold wLook wLookB at h
  split at h
  · split at h
    · injection h with h
      injection h with _ h
      subst h
      refine Nat.le_trans (recScan_len _ _ _) ?_
      rw [List.length_drop]
      omega
    · cases h
  · cases h
theorem ChSt.fin {all : List Fd} {frm n : Nat} (hall : ∀ y ∈ all, y.at' < n ∧ y.recs.length ≤ 40000) : ∀ (m : Nat) {live : List Sg} {last : Nat} {out : List Rcd} {nx : Option Fd}, ChSt all frm n live last out nx → live.length + m = n + 1 →
    ∃ live' last' out', wChain all frm (n + 1) [] frm [] (wPick frm all none) = (live', last', out') ∧ (live'.map (·.at')).Nodup ∧ (∀ s ∈ live', s.at' < n) ∧ last' < U64 ∧ out'.length ≤ n * 40000
  | 0, live, last, out, nx, s, hm => by have := s.len; omega
  | m + 1, live, last, out, none, s, hm => ⟨live, last, out, s.end, s.nd, s.lt, s.last, Nat.le_trans s.out (Nat.mul_le_mul_right _ s.len)⟩
  | m + 1, live, last, out, some x, s, hm => ChSt.fin hall m (s.next hall) (by rw [List.length_append, List.length_singleton]; omega)
section
variable {D : Dsk} {a : Int} {n size frm : Nat}
theorem wOpen_fin (hok : D.Ok) (hs : size ≤ 64) (hf : frm < U64) : ∃ live last out, wChain (wAll D.view a size n) frm (n + 1) [] frm [] (wPick frm (wAll D.view a size n) none) = (live, last, out) ∧ (live.map (·.at')).Nodup ∧ (∀ s ∈ live, s.at' < n) ∧ last < U64 ∧ out.length ≤ n * 40000 :=
  ChSt.fin (fun y hy => ⟨(wAll_mem hy).1, wLook_recs hok hs (wAll_mem hy).2⟩) (n + 1) (ChSt.start hf) (by simp)
theorem wOpen_D (D : Dsk) (a : Int) (n size frm : Nat) : (wOpen D a n size frm).1.a = a ∧ (wOpen D a n size frm).1.n = n ∧ (wOpen D a n size frm).1.size = size ∧ (wOpen D a n size frm).1.stream = [] := ⟨rfl, rfl, rfl, rfl⟩
theorem wOpen_Ok (hok : D.Ok) (hn2 : 2 ≤ n) (hn : n ≤ 64) (hs1 : 1 ≤ size) (hs : size ≤ 64) (h0 : 0 ≤ a) (h1 : a + (n : Int) * size ≤ 65536) (hf : frm < U64) : (wOpen D a n size frm).1.Ok := by
  obtain ⟨live, last, out, e, h2, h3, h4, _⟩ := wOpen_fin (D := D) (a := a) (n := n) hok hs hf
  have hD := ow_D e
  have hl := ow_last e
  have hy := ow_synced e
  have hv := ow_live e
  have hm : max last frm < U64 := by omega
  refine ⟨by rw [hD]; exact (wFreeAll_ok hok a size live n).sync, hn2, hn, hs1, hs, h0, h1, by rw [hl]; exact hm, by rw [hy]; exact hm, by rw [hv]; exact h2, by rw [hv]; exact h3, fun h => (h rfl).elim, Nat.zero_le _⟩
theorem wOpen_pend (hok : D.Ok) (hs : size ≤ 64) (hf : frm < U64) : (wOpen D a n size frm).1.D.pend = [] := by
  obtain ⟨live, last, out, e, _⟩ := wOpen_fin (D := D) (a := a) (n := n) hok hs hf
  rw [ow_D e]
  rfl
end
theorem Wl.Ok.append {l : Wl} (ok : l.Ok) (t : List UInt8) : (wAppend l t).1.Ok := by
  obtain ⟨q, hq⟩ : ∃ q, q = (l.last + 1) % U64 := ⟨_, rfl⟩
  have hqU : q < U64 := by rw [hq]; exact Nat.mod_lt _ (by unfold U64; omega)
  obtain ⟨head, hh⟩ : ∃ head, head = recB q titleB := ⟨_, rfl⟩
  obtain ⟨b, hb⟩ : ∃ b, b = recB q t := ⟨_, rfl⟩
  by_cases hlong : 32768 < t.length ∨ 512 * l.size < head.length + b.length
  · rw [wAppend_long hq hh hb hlong]; exact ok
  have key : ∀ {L : List Sg} {s : List UInt8} {i : Nat} {fr : Bool}, ApC l q head b L s i fr → (wAppend l t).1.Ok := by
    intro L s i fr c
    obtain ⟨r, hr⟩ : ∃ r, wPut l.D (l.a + (i : Int) * l.size) (s ++ b) (s ++ b).length (apFrom l fr / 512) = r := ⟨_, rfl⟩
    have hD : r.1.Ok := by rw [← hr]; exact wPut_ok _ _ _ _ ok.dok
    by_cases h0 : r.2 = 0
    · rw [wAppend_ok hq hh hb hlong c hr h0]
      exact c.ok ok hqU hlong hD
    · rw [wAppend_no hq hh hb hlong c hr h0]
      cases fr with
      | true => exact (ok.drop (wFree_ok hD _ _)).sync
      | false => exact ok.drop hD
  by_cases hfr : l.stream = [] ∨ 512 * l.size < l.stream.length + b.length
  · cases hw : wFresh l.live l.n with
    | none => rw [wAppend_full hq hh hb hlong hfr hw]; exact ok
    | some i => exact key (L := l.live ++ [⟨i, q, 0⟩]) (s := head) (i := i) (fr := true) ⟨fun _ => ⟨hfr, hw, rfl, rfl⟩, fun e => (by cases e)⟩
  · exact key (L := l.live) (s := l.stream) (fr := false) ⟨fun e => (by cases e), fun _ => ⟨hfr, rfl, rfl, rfl⟩⟩

/-- A log that the call has made, since w, on a disk of its own. -/
structure Lp (w W : World) (gl : Nat) (h : Zn) (l : Wl) : Prop where
  dp : Dp w W h l.D
  lg : Lg W gl h l
  gn : w.heap.size ≤ gl
  ok : l.Ok
section
variable {w W W' : World} {gl : Nat} {h h' : Zn} {l : Wl} {D : Dsk}
theorem Lp.later (p : Lp w W gl h l) (hb : Below W.heap.size W W') : Lp w W' gl h l := ⟨p.dp.later hb, p.lg.later hb, p.gn, p.ok⟩
theorem Lp.lb (p : Lp w W gl h l) : ∃ lv sv, Lb W gl h.g l.a l.n l.size lv sv l.last l.synced ∧ Rg3 W lv l.live := by
  obtain ⟨lv, sv, g⟩ := p.lg
  exact ⟨lv, sv, g.lb, g.live⟩
theorem lopen_lp (d : Dp w W h D) (hok : D.Ok) {a : Int} {n size frm : Nat} (hn2 : 2 ≤ n) (hn : n ≤ 64) (hs1 : 1 ≤ size) (hs : size ≤ 64) (h0 : 0 ≤ a) (h1 : a + (n : Int) * size ≤ 65536) (hf : frm < U64) (hp : D.pend.length ≤ 800000) {pg : Nat} (hpg : h.g = pg) :
    Calls Tryd.prog 7 #[.pointer (some ⟨pg, 0, none⟩), .int .i64 a, .int .i64 (n : Int), .int .i64 (size : Int), .int .u64 (frm : Int)] W fun e W' => ∃ gl A k c h', e = .returned (.tuple #[.pointer (some ⟨gl, 0, none⟩), .slice A k c, .int .i64 0]) ∧
      Lp w W' gl h' (wOpen D a n size frm).1 ∧ h'.g = pg ∧ W'.ownsRow W.heap.size 41 2 (.slice A k c) (wOpen D a n size frm).2.length (rcs (wOpen D a n size frm).2) ∧ Stp h W h' W' := by
  subst hpg
  refine (lgopen_any h D a n size frm W d.dk hok hn2 hn hs1 hs h0 h1 hf hp).mono ?_
  rintro e W' ⟨gl, lv', sv', A, k, c, h', he, h2, h3, h4, h5, h6, h7, h8⟩
  refine ⟨gl, A, k, c, h', he, ⟨d.stp h8 h2, ⟨lv', sv', h2, ?_, h4, by rw [h5]; exact (Sl.nil : Bs _ _ _ [])⟩, Nat.le_trans d.below.size h6, wOpen_Ok hok hn2 hn hs1 hs h0 h1 hf⟩, h8.g, h7, h8⟩
  rw [h8.g]
  exact h3
theorem lappend_lp (p : Lp w W gl h l) (hb : BitsOk w) {t : List UInt8} (ht : t.length ≤ 1099511627776) (hp : l.D.pend.length ≤ 800000) {pg : Nat} (hpg : h.g = pg) :
    Calls Tryd.prog 12 #[.pointer (some ⟨gl, 0, none⟩), .string (st t)] W fun e W' => e = .returned (.tuple #[.int .u64 ((wAppend l t).2.1 : Int), .int .i64 ((wAppend l t).2.2 : Int)]) ∧ ∃ h', Lp w W' gl h' (wAppend l t).1 ∧ h'.g = pg ∧ Mtp h gl W h' W' := by
  subst hpg
  refine (lgappend_any h l gl t W p.lg p.ok (hb.later p.dp.below) ht hp).mono ?_
  rintro e W' ⟨he, h', h2, h3⟩
  refine ⟨he, h', ⟨?_, h2, p.gn, p.ok.append t⟩, h3.g, h3⟩
  obtain ⟨_, _, g⟩ := h2
  exact p.dp.mtp p.gn h3 g.dk
theorem lsync_lp (p : Lp w W gl h l) {pg : Nat} (hpg : h.g = pg) :
    Calls Tryd.prog 15 #[.pointer (some ⟨gl, 0, none⟩)] W fun e W' => e = .returned (.tuple #[]) ∧ ∃ h', Lp w W' gl h' l.sync ∧ h'.g = pg ∧ Mtp h gl W h' W' := by
  subst hpg
  obtain ⟨lv, sv, g⟩ := p.lg
  refine (lgsync_any h l.D gl l.a l.n l.size lv sv l.last l.synced W g.dk p.ok.dok g.lb).mono ?_
  rintro e W' ⟨he, h', h2, h3, h4⟩
  exact ⟨he, h', ⟨p.dp.mtp p.gn h4 h2, ⟨lv, sv, g.sync h2 h3 h4⟩, p.gn, p.ok.sync⟩, h4.g, h4⟩
theorem llast_lp (p : Lp w W gl h l) : Calls Tryd.prog 8 #[.pointer (some ⟨gl, 0, none⟩)] W fun e W' => e = .returned (.int .u64 (l.last : Int)) ∧ W = W' := by
  obtain ⟨lv, sv, g⟩ := p.lg
  exact lglast_any gl h.g l.a l.n l.size lv sv l.last l.synced W g.lb
theorem lsynced_lp (p : Lp w W gl h l) : Calls Tryd.prog 10 #[.pointer (some ⟨gl, 0, none⟩)] W fun e W' => e = .returned (.int .u64 (l.synced : Int)) ∧ W = W' := by
  obtain ⟨lv, sv, g⟩ := p.lg
  exact lgsynced_any gl h.g l.a l.n l.size lv sv l.last l.synced W g.lb
theorem llive_lp (p : Lp w W gl h l) : Calls Tryd.prog 9 #[.pointer (some ⟨gl, 0, none⟩)] W fun e W' => e = .returned (.int .i64 (l.live.length : Int)) ∧ W = W' := by
  obtain ⟨lv, sv, g⟩ := p.lg
  exact lglive_any gl h.g l.a l.n l.size lv sv l.last l.synced l.live W g.lb g.live
end

/-! ### An orderly log from the first -/
theorem wAll_none {f : SF} {a : Int} {size : Nat} (hf : ∀ x, f x = none) : ∀ n, wAll f a size n = []
  | 0 => rfl
  | n + 1 => by
    rw [wAll_succ, wAll_none hf n, List.nil_append]
    refine wCell_none ?_
    unfold wLook
    have : wBytes f (a + (n : Int) * size) size = [] := by
      cases size with
      | zero => rfl
      | succ s => exact wBytes_none (hf _)
    rw [this]
    unfold wLookB
    rw [recGet_nil]
theorem wFree_none {D : Dsk} (hf : ∀ x, D.view x = none) (p : Int) : ∀ n, wFree D p n = D
  | 0 => rfl
  | n + 1 => by
    rw [wFree, wFree_none hf p n]
    unfold Dsk.free
    rw [hf]
    rfl
theorem wFreeAll_none {D : Dsk} (hf : ∀ x, D.view x = none) (a : Int) (size : Nat) (live : List Sg) : ∀ n, wFreeAll D a size live n = D
  | 0 => rfl
  | n + 1 => by
    rw [wFreeAll, wFreeAll_none hf a size live n]
    split
    · rfl
    · exact wFree_none hf _ _
/-- On an empty disk there is nothing. -/
theorem wOpen_none {D : Dsk} (hf : ∀ x, D.view x = none) (a : Int) (n size frm : Nat) : wOpen D a n size frm = ({ D := D.sync, a := a, n := n, size := size, live := [], stream := [], last := frm, synced := frm }, []) := by
  unfold wOpen
  rw [wAll_none hf n]
  show (Wl.sync _, _) = _
  simp only [wPick, wChain, wFreeAll_none hf, Wl.sync, Nat.max_self]
theorem Wl.Ok.start {D : Dsk} (hf : ∀ x, D.view x = none) (hok : D.Ok) {a : Int} {n size frm : Nat} (hn2 : 2 ≤ n) (hn : n ≤ 64) (hs1 : 1 ≤ size) (hs : size ≤ 64) (h0 : 0 ≤ a) (h1 : a + (n : Int) * size ≤ 65536) (hm : frm < U64) : ({ D := D.sync, a := a, n := n, size := size, live := [], stream := [], last := frm, synced := frm } : Wl).Ok := by
  have := wOpen_Ok hok hn2 hn hs1 hs h0 h1 hm
  rw [wOpen_none hf] at this
  exact this
theorem Cl.start {D : Dsk} (hf : ∀ x, D.view x = none) (a : Int) (n size : Nat) : Cl { D := D.sync, a := a, n := n, size := size, live := [], stream := [], last := 0, synced := 0 } [] :=
  ⟨rfl, trivial, rfl, by simp [endN], by simp, by simp, by simp, by simp, by simp, fun i _ _ k _ => (by rw [if_neg (by simp)]; exact hf _), fun y hy => (by have h9 : (D.view y).isSome = true := hy; rw [hf] at h9; cases h9), .inl rfl⟩
end Go.Proofs.YtojlldalhhibmaaDoor

namespace Go.Proofs.YtojlldalhhibmaaDoor
open Go Go.RowKit
set_option linter.unusedVariables false

theorem recB_small {q : Nat} {t : List UInt8} (hq : q < 128) (ht : t.length < 128) : (recB q t).length = 10 + t.length := by
  rw [recB_len, recF, List.length_append, List.length_append, varB_lo hq, varB_lo ht]
  simp only [List.length_singleton]
  omega
theorem crash_sync (D : Dsk) : D.sync.crash [] = D.sync := rfl
/-- The chapter's example, plain. -/
theorem example8 {l1 : Wl} (h1 : l1 = { D := (Dsk.new 9).sync, a := 0, n := 2, size := 1, live := [], stream := [], last := 0, synced := 0 }) :
    ∃ l2 l3, wAppend l1 [97] = (l2, 1, 0) ∧ wAppend l2 [98] = (l3, 2, 0) ∧ l3.last = 2 ∧ l2.D.pend.length ≤ 800000 ∧ (wOpen (l3.sync.D.crash []) 0 2 1 1).1.last = 2 ∧ (wOpen (l3.sync.D.crash []) 0 2 1 1).1.live.length = 1 ∧ (wOpen (l3.sync.D.crash []) 0 2 1 1).2 = [(2, [98])] := by
  have c1 : Cl l1 [] := by rw [h1]; exact Cl.start (fun _ => rfl) 0 2 1
  have ok1 : l1.Ok := by
    rw [h1]
    exact Wl.Ok.start (fun _ => rfl) (Dsk.Ok.new (by omega) (by omega)) (by omega) (by omega) (by omega) (by omega) (by omega) (by omega) (by unfold U64; omega)
  have r1 : Roomy l1 := by rw [h1]; exact ⟨by simp [Dsk.new, Dsk.sync], by simp [Dsk.new, Dsk.sync]⟩
  have hl1 : l1.last = 0 := by rw [h1]
  have hs1 : l1.stream = [] := by rw [h1]
  have hz1 : l1.size = 1 := by rw [h1]
  have hp1 : l1.D.pend.length = 0 := by rw [h1]; rfl
  have b1 : (recB 1 titleB).length = 17 := recB_small (by omega) (by decide)
  have b2 : (recB 1 [97]).length = 11 := recB_small (by omega) (by simp)
  have b3 : (recB 2 titleB).length = 17 := recB_small (by omega) (by decide)
  have b4 : (recB 2 [98]).length = 11 := recB_small (by omega) (by simp)
  rcases c1.append ok1 r1 [97] (by simp [endN]) with ⟨h2, _, _, h5, h6⟩ | ⟨h2, SB1, h3⟩
  · exfalso
    rcases h2 with h2 | h2
    · have := h5.1 h2
      rw [hl1, hz1, b1, b2] at this
      simp at this
    · have := (h6 h2).2
      rw [h1] at this
      revert this
      decide
  have ok2 := ok1.append [97]
  obtain ⟨l2, x2, hw2⟩ : ∃ l2 x, wAppend l1 [97] = (l2, x) := ⟨_, _, rfl⟩
  rw [hw2] at h2 h3 ok2
  simp only at h2 h3 ok2
  subst h2
  have hb2 : bods SB1 = [[97]] := by rw [h3.bods]; rfl
  have he2 : endN 1 SB1 = 2 := by rw [endN_eq, hb2]; rfl
  have hl2 : l2.last = 1 := by have := h3.cl.last; omega
  have hz2 : l2.size = 1 := by rw [h3.par.2.2.1, hz1]
  have hsl2 : l2.stream.length ≤ 28 := by have := h3.slen; rw [hs1, hl1, b1, b2] at this; simpa using this
  have hSB1 : SB1.length ≤ 1 := by have := h3.len; simpa using this
  rcases h3.cl.append ok2 h3.room [98] (by omega) with ⟨h4, _, _, h5, h6⟩ | ⟨h4, SB2, h7⟩
  · exfalso
    rcases h4 with h4 | h4
    · have := h5.1 h4
      rw [hl2, hz2, b3, b4] at this
      simp at this
    · have := (h6 h4).1
      rw [hl2, hz2, b4] at this
      rcases this with h | h
      · exact h3.str h
      · omega
  obtain ⟨l3, x3, hw3⟩ : ∃ l3 x, wAppend l2 [98] = (l3, x) := ⟨_, _, rfl⟩
  rw [hw3] at h4 h7
  simp only at h4 h7
  subst h4
  have hb3 : bods SB2 = [[97], [98]] := by rw [h7.bods, hb2]; rfl
  have he3 : endN 1 SB2 = 3 := by rw [endN_eq, hb3]; rfl
  have hl3 : l3.last = 2 := by have := h7.cl.last; omega
  have hSB2 : SB2.length = SB1.length := h7.same ⟨h3.str, by rw [hl2, hz2, b4]; omega⟩
  obtain ⟨SA, SC, e1, e2, e3, e4, e5, e6⟩ := wOpen_cl h7.cl.sync (k := 1) (by show 1 ≤ l3.last; omega)
  have ha3 : l3.sync.a = 0 := by show l3.a = 0; rw [h7.par.1, h3.par.1, h1]
  have hn3 : l3.sync.n = 2 := by show l3.n = 2; rw [h7.par.2.1, h3.par.2.1, h1]
  have hz3 : l3.sync.size = 1 := by show l3.size = 1; rw [h7.par.2.2.1, hz2]
  rw [ha3, hn3, hz3] at e3 e4 e5 e6
  have hcr : l3.sync.D.crash [] = l3.sync.D := crash_sync l3.D
  refine ⟨l2, l3, by rw [hw2]; rfl, by rw [hw3, he2], hl3, ?_, ?_, ?_, ?_⟩
  · have := h3.pend; rw [hp1, hz1] at this; omega
  · rw [hcr, e4]; exact hl3
  · rw [hcr, e3, List.length_map]
    have hne : SB2 ≠ [] := fun h => by rw [h] at hb3; simp [bods] at hb3
    have h8 := pos_len (e2 hne)
    have h9 := congrArg List.length e1
    rw [List.length_append] at h9
    omega
  · rw [hcr, e6, hb3]
    simp [numbered, U64]
end Go.Proofs.YtojlldalhhibmaaDoor

namespace Go.Proofs.YtojlldalhhibmaaDoor
open Go Go.RowKit
set_option linter.unusedVariables false

theorem Lp.dpsync {w W : World} {gl : Nat} {h : Zn} {l : Wl} (p : Lp w W gl h l) : Dp w W h l.D := p.dp
set_option maxHeartbeats 4000000 in
set_option maxRecDepth 100000 in
theorem awake8_any (w : World) (hb : BitsOk w) : Calls Tryd.prog 6 #[] w fun e w' => e = .returned (.bool true) ∧ Below w.heap.size w w' := by
  have HB := Lib.hid hb
  have OK0 : Hid ((Dsk.new 9).Ok) := Dsk.Ok.new (by omega) (by omega)
  have u64 : Hid (3 < U64) := by rw [Hid]; unfold U64; omega
  have hex := example8 rfl
  obtain ⟨l2, l3, a2, a3, hl3, hp2, o1, o2, o3⟩ := hex
  have W0 := Lib.hid (wOpen_none (D := Dsk.new 9) (fun _ => rfl) 0 2 1 0)
  have A2 := Lib.hid a2
  have A3 := Lib.hid a3
  have L3 := Lib.hid hl3
  have P2 := Lib.hid hp2
  have O1 := Lib.hid o1
  have O2 := Lib.hid o2
  have O3 := Lib.hid o3
  clear hb a2 a3 hl3 hp2 o1 o2 o3
  go_enter Tryd.func6, Tryd.ntmps6
  go_wp2_with fail
  refine (dnew_any 9 w (by omega) (by omega)).mono ?_
  rintro e w1 ⟨h, rfl, hd, hnew, hbl⟩
  have D1 : Hid (Dp w w1 h (Dsk.new 9)) := ⟨hd, hnew, hbl⟩
  clear hd hnew hbl
  go_wp2_with fail
  refine (lopen_lp (a := 0) (n := 2) (size := 1) (frm := 0) D1.out OK0.out (by omega) (by omega) (by omega) (by omega) (by omega) (by omega) (by have := u64.out; omega) (by show ([] : List Pnd).length ≤ _; simp) rfl).mono ?_
  rintro e w2 ⟨gl, A, k, c, h2, rfl, hp, hg2, ho, -⟩
  rw [W0.out] at hp ho
  have P1 := Lib.hid hp
  have G2 := Lib.hid hg2
  obtain rfl : k = 0 := own_len ho
  clear hp hg2 ho D1
  go_wp2_with fail
  refine (lappend_lp (t := [97]) P1.out HB.out (by simp) (by show ([] : List Pnd).length ≤ _; simp) G2.out).mono ?_
  rintro e w3 ⟨rfl, h3, hp, hg3, -⟩
  rw [A2.out] at hp ⊢
  have PP2 := Lib.hid hp
  have G3 := Lib.hid hg3
  clear hp hg3 P1 G2
  go_wp2_with fail
  refine (lappend_lp (t := [98]) PP2.out HB.out (by simp) P2.out G3.out).mono ?_
  rintro e w4 ⟨rfl, h4, hp, hg4, -⟩
  rw [A3.out] at hp ⊢
  have PP3 := Lib.hid hp
  have G4 := Lib.hid hg4
  clear hp hg4 PP2 G3
  go_wp2_with fail
  refine (lsync_lp PP3.out G4.out).mono ?_
  rintro e w5 ⟨rfl, h5, hp, hg5, -⟩
  have PP5 := Lib.hid hp
  have G5 := Lib.hid hg5
  clear hp hg5 PP3 G4
  go_wp2_with fail
  refine (dcrash_dp (S := fun _ => True) (l := []) PP5.out.dp PP5.out.ok.dok Sl.nil (by simp) (by simp) (by show ([] : List Pnd).length ≤ _; simp) G5.out).mono ?_
  rintro e w6 ⟨rfl, h6, hd, hg6, hs⟩
  obtain ⟨lv, sv, hlg⟩ := PP5.out.lg
  have LB6 := Lib.hid (hs.lb hlg.dk hlg.lb)
  have D6 := Lib.hid hd
  have G6 := Lib.hid hg6
  have OK6 : Hid ((l3.sync.D.crash []).Ok) := by rw [show l3.sync.D.crash [] = l3.sync.D from crash_sync l3.D]; exact PP5.out.ok.dok
  clear hd hg6 hs hlg PP5 G5
  go_wp2_with fail
  refine (lopen_lp (a := 0) (n := 2) (size := 1) (frm := 1) D6.out OK6.out (by omega) (by omega) (by omega) (by omega) (by omega) (by omega) (by have := u64.out; omega) (by show ([] : List Pnd).length ≤ _; simp) G6.out).mono ?_
  rintro e w7 ⟨gm, A7, k7, c7, h7, rfl, hp, hg7, ho, hs⟩
  have P7 := Lib.hid hp
  have LB7 := Lib.hid (hs.lb D6.out.dk LB6.out)
  rw [O3.out] at ho
  obtain rfl : k7 = 1 := own_len ho
  have O7 := Lib.hid ho
  have HS : Hid (l3.sync.synced = 2) := L3.out
  clear hp hg7 ho hs D6 LB6
  go_wp2_with fail
  refine (lgsynced_any gl _ _ _ _ _ _ _ _ w7 LB7.out).mono ?_
  rintro e w8 ⟨rfl, rfl⟩
  rw [HS.out]
  go_wp2_with fail
  have qa := (Below.refl w7.heap.size w7).alloc (Nat.le_refl _) (.cells #[.int .u64 2, .string (st [98])] 41)
  have PA := Lib.hid (P7.out.later qa)
  refine (rsame_any _ _ _ _ [(2, [98])] [(2, [98])] _ (Sl.of_own (by omega) (World.ownsRow.alloc O7.out _)) (Sl.newrec (S := fun _ => True) (g := w7.heap.size) w7 (2, [98]) rfl trivial) ).mono ?_
  rintro e w9 ⟨rfl, nn, rfl⟩
  have P9 := Lib.hid (PA.out.later (below_drewN (Below.refl _ _) nn))
  clear qa PA P7
  go_wp2_with fail
  refine (llast_lp P9.out).mono ?_
  rintro e w10 ⟨rfl, rfl⟩
  rw [O1.out]
  go_wp2_with fail
  refine (llive_lp P9.out).mono ?_
  rintro e w10 ⟨rfl, rfl⟩
  rw [O2.out]
  go_wp2_with fail
  go_ret
  exact ⟨rfl, P9.out.dp.below⟩
end Go.Proofs.YtojlldalhhibmaaDoor

namespace Go.Proofs.YtojlldalhhibmaaDoor
open Go Go.RowKit
set_option linter.unusedVariables false

theorem step_append_new {P : Program} {w : World} {ops : Array Oper} {o : Oper} {a : Act} {K : Act → World → Prop} {Q : Exit → Act → World → Prop} {F : Prop} (hgd : o.guard = none) (s x : Operand) {t e : TypeId} {z : Value} {size bytes : Nat}
    (E : Elem P t e z size bytes) (ho : o.op = .call { callee := .builtin .append, args := #[s, x], argTypes := #[t, t] })
    {base g : Nat} {S : Nat → Prop} {u : Value} {m : Nat} {news : List Value} (hown : w.ownsRow base e size (.slice (some ⟨g, 0, none⟩) 0 0) 0 []) (hr : Sl S w size u m news) (hs : a.eval s = .slice (some ⟨g, 0, none⟩) 0 0) (hx : a.eval x = u)
    (hlen : m ≤ maxLen) (hbytes : m * bytes ≤ 140737488355328) (hbase : base ≤ w.heap.size)
    (h : ∀ A c w', w'.ownsRow base e size (.slice A m c) m news → Below w.heap.size w w' → K (a.put o.dst (.slice A m c)) w') :
    if Region.wanted o (yielded ops a.tmps) = true then Oper.wp P o a w K Q else F := by
  have hw : Region.wanted o (yielded ops a.tmps) = true := by simp [Region.wanted, hgd]
  rw [if_pos hw]
  obtain ⟨v', w', hrun, h2, h3⟩ := run_append_new (P := P) w E o.type hown hr hlen hbytes hbase
  obtain ⟨A, k, c, rfl⟩ := own_slice h2
  obtain rfl := own_len h2
  unfold Oper.wp execOp
  simp only [ho, resolve, invoke, builtin, Sem.run_bind, Sem.run_pure, Result.andThen_ok, List.map_toArray, List.map_cons, List.map_nil, hs, hx, hrun]
  exact h A c w' h2 h3
theorem own_later9 {e : TypeId} {size n B : Nat} {w w' : World} {v : Value} {xs : List Value} (h : w.ownsRow B e size v n xs) (hb : Below w.heap.size w w') : w'.ownsRow B e size v n xs := by
  obtain ⟨h1, h2⟩ := h
  refine ⟨h1, ?_⟩
  rcases h2 with h2 | ⟨g, cap, cur, hv, hg, hh, r⟩
  · exact .inl h2
  · exact .inr ⟨g, cap, cur, hv, hg, (hb.block g (lt_of_block hh)).trans hh, r⟩
/-- The cells that Copy reads, and what was there is there. -/
def CpS (w : World) (g : Nat) (size limit : Int) (bv bg : Nat) (v : Value) (W : World) : Prop :=
  W.cell? ⟨g, 0, none⟩ = some (.int .i64 size) ∧ W.cell? ⟨g, 1, none⟩ = some (.int .i64 limit) ∧ W.cell? ⟨g, 2, none⟩ = some (.map (some bv)) ∧ W.cell? ⟨g, 3, none⟩ = some (.map (some bg)) ∧ W.cell? ⟨g, 4, none⟩ = some v ∧ Below w.heap.size w W
theorem CpS.next {w : World} {g : Nat} {size limit : Int} {bv bg : Nat} {v : Value} {W W' : World} (s : CpS w g size limit bv bg v W) (hb : Below W.heap.size W W') : CpS w g size limit bv bg v W' := by
  obtain ⟨a, b, c, d, e, f⟩ := s
  exact ⟨cell_later hb a, cell_later hb b, cell_later hb c, cell_later hb d, cell_later hb e, f.trans (hb.mono f.size)⟩
theorem CpS.below {w : World} {g : Nat} {size limit : Int} {bv bg : Nat} {v : Value} {W : World} (s : CpS w g size limit bv bg v W) : Below w.heap.size w W := s.2.2.2.2.2

set_option maxHeartbeats 8000000 in
set_option maxRecDepth 100000 in
theorem dcopy2_any (h : Zn) (D : Dsk) (w : World) (hd : Dk w h D) (hok : D.Ok) (hlen : D.pend.length ≤ 1000000) :
    Calls Tryd.prog 13 #[.pointer (some ⟨h.g, 0, none⟩)] w fun e w' => ∃ h', e = .returned (.pointer (some ⟨h'.g, 0, none⟩)) ∧ Dk w' h' D ∧ (∀ b, h'.has b → w.heap.size ≤ b) ∧ Below w.heap.size w w' := by
  obtain ⟨g, bv, bg, sl⟩ := h
  obtain ⟨vs, hown, hpl⟩ := hd.pend
  have hvl := hpl.1
  obtain ⟨A0, c0, hsl, _⟩ := Ow.shape hown
  simp only at hsl
  subst hsl
  have hvb : vs.length ≤ 1000000 := by omega
  have HO := Lib.hid hown
  have HPL := Lib.hid hpl
  have HV := Lib.hid hd.view
  have HG := Lib.hid hd.ground
  have HOK := Lib.hid hok
  have S0 : CpS w g D.size D.limit bv bg (.slice A0 vs.length c0) w.drew := ⟨hd.blk.cell 0, hd.blk.cell 1, hd.blk.cell 2, hd.blk.cell 3, hd.blk.cell 4, below_drewN (Below.refl _ _) 1⟩
  have HN : ∀ W W', CpS w g D.size D.limit bv bg (.slice A0 vs.length c0) W → Below W.heap.size W W' → CpS w g D.size D.limit bv bg (.slice A0 vs.length c0) W' := fun _ _ s hb => s.next hb
  have HNH := Lib.hid HN
  have HS0 := Lib.hid S0
  have HM1 : Hid (vs.length ≤ maxLen) := by simp only [Hid, maxLen]; omega
  have HM2 : Hid (vs.length * 8 ≤ 140737488355328) := by rw [Hid]; omega
  clear hd hok hpl hown hvl S0 HN
  go_enter Tryd.func13, Tryd.ntmps13
  go_wp2_with fail
  go_region_held3 (fun W => W.cell? ⟨g, 0, none⟩ = some (.int .i64 D.size) ∧ W.cell? ⟨g, 1, none⟩ = some (.int .i64 D.limit) ∧ W.cell? ⟨g, 2, none⟩ = some (.map (some bv)) ∧ W.cell? ⟨g, 3, none⟩ = some (.map (some bg)) ∧ W.cell? ⟨g, 4, none⟩ = some (.slice A0 vs.length c0) ∧ Below w.heap.size w W)
    (first
      | exact HS0.out
      | exact HNH.out _ _ (by assumption) hbl
      | exact HNH.out _ _ (by assumption) ((Below.refl _ _).alloc (Nat.le_refl _) _)
      | fail)
    ((first
      | (go_at_call_of 28 bv; refine (copied_any bv D.nv D.view _ (HV.out.later (CpS.below (by assumption))) HOK.out.view).mono ?_; rintro e wv ⟨b1, rfl, hnew1, hsec1, hbl⟩)
      | (go_at_call_of 28 bg; refine (copied_any bg D.ng D.ground _ (HG.out.later (CpS.below (by assumption))) HOK.out.ground).mono ?_; rintro e wgd ⟨b2, rfl, hnew2, hsec2, hbl⟩)
      | (refine step_append_new rfl (.tmp 21) (.tmp 25) elemPn rfl (base := w.heap.size) (news := vs) (S := fun _ => True) ?_ ?_ rfl rfl HM1.out HM2.out ?_ ?_; (focus (first | (refine Ow.made _ _ _ ?_ rfl; (repeat (first | exact Nat.le_refl _ | (refine Nat.le_trans ?_ (Below.size (by assumption))))); done) | (refine own_later9 ?_ (by assumption); refine Ow.made _ _ _ ?_ rfl; (repeat (first | exact Nat.le_refl _ | (refine Nat.le_trans ?_ (Below.size (by assumption))))); done) | (refine own_later9 ?_ (by assumption); refine own_later9 ?_ (by assumption); refine Ow.made _ _ _ ?_ rfl; (repeat (first | exact Nat.le_refl _ | (refine Nat.le_trans ?_ (Below.size (by assumption))))); done))); (focus (exact ((HO.out.later (CpS.below (by assumption))).sl).more (fun _ _ => trivial))); (focus (exact (CpS.below (by assumption)).size)); intro A8 c8 w8 hown8 hbl)))
  all_goals
    have e1 : w.heap.size ≤ b1 := Nat.le_trans (by (repeat (first | exact Nat.le_refl _ | (simp; done) | (refine Nat.le_trans ?_ (Below.size (by first | assumption | exact (Below.refl _ _).alloc (Nat.le_refl _) _)))))) hnew1
    have e2 : w.heap.size ≤ b2 := Nat.le_trans (by (repeat (first | exact Nat.le_refl _ | (simp; done) | (refine Nat.le_trans ?_ (Below.size (by first | assumption | exact (Below.refl _ _).alloc (Nat.le_refl _) _)))))) hnew2
    have ne12 : b1 ≠ b2 := by
      first
        | (refine Nat.ne_of_lt (Nat.lt_of_lt_of_le (Secs.lt (f := D.view) (n := D.nv) ?_) hnew2); (repeat (first | assumption | (refine Secs.later ?_ (by first | assumption | exact (Below.refl _ _).alloc (Nat.le_refl _) _)))); done)
        | (refine (Nat.ne_of_lt (Nat.lt_of_lt_of_le (Secs.lt (f := D.ground) (n := D.ng) ?_) hnew1)).symm; (repeat (first | assumption | (refine Secs.later ?_ (by first | assumption | exact (Below.refl _ _).alloc (Nat.le_refl _) _)))); done)
    go_wp2_with fail
    go_ret
    refine ⟨⟨_, b1, b2, .slice A8 vs.length c8⟩, rfl, ⟨Blk.new _ _ _, ?_, ?_, ne12, vs, ?_, ?_⟩, fun b hb => ?_, ?_⟩
    · show Secs _ b1 _ _
      (repeat (first | assumption | (refine Secs.later ?_ (by first | assumption | exact (Below.refl _ _).alloc (Nat.le_refl _) _))))
    · show Secs _ b2 _ _
      (repeat (first | assumption | (refine Secs.later ?_ (by first | assumption | exact (Below.refl _ _).alloc (Nat.le_refl _) _))))
    · refine Ow.lower (B := w.heap.size) ?_ (Nat.zero_le _)
      (repeat (first | exact hown8 | (refine own_later9 ?_ (by first | assumption | exact (Below.refl _ _).alloc (Nat.le_refl _) _))))
    · have hbe := CpS.below (w := w) (g := g) (size := D.size) (limit := D.limit) (bv := bv) (bg := bg) (v := .slice A0 vs.length c0) (by assumption)
      exact HPL.out.keep fun _ _ h => h.later hbe
    · rcases hb with rfl | rfl | rfl | hb
      · show w.heap.size ≤ _
        (repeat (first | exact Nat.le_refl _ | (simp; done) | (refine Nat.le_trans ?_ (Below.size (by first | assumption | exact (Below.refl _ _).alloc (Nat.le_refl _) _)))))
      · exact e1
      · exact e2
      · exact (hown8.lt b hb).1
    · have hbe := CpS.below (w := w) (g := g) (size := D.size) (limit := D.limit) (bv := bv) (bg := bg) (v := .slice A0 vs.length c0) (by assumption)
      exact hbe
end Go.Proofs.YtojlldalhhibmaaDoor

namespace Go.Proofs.YtojlldalhhibmaaDoor
open Go Go.RowKit
set_option linter.unusedVariables false

theorem Sv.one {S : Nat → Prop} (w : World) (x y : Int) {g : Nat} (hg : g = w.heap.size) (hS : S g) : Sv S (w.alloc (.cells #[.int .i64 x, .int .i64 y] 76)) (.slice (some ⟨g, 0, none⟩) 1 1) [(x, y)] := by
  subst hg
  refine ⟨rfl, _, _, rfl, Nat.le_refl _, by simp [maxLen], fun h => (by cases h), fun _ => ⟨_, 0, rfl, hS, fun j u hj => ?_⟩⟩
  have hb := Blk.new w 76 #[.int .i64 x, .int .i64 y]
  match j, hj with
  | 0, hj => rw [← Option.some.inj hj]; exact hb.cell 0
  | 1, hj => rw [← Option.some.inj hj]; exact hb.cell 1
  | j + 2, hj => simp [pcs] at hj

theorem rec_one {q : Nat} (hq : q < U64) {c : UInt8} : (recB q [c]).length ≤ (500 : Int).toNat := by
  have h1 := varB_le10 hq
  have h2 := varB_le 1 [c].length (by simp)
  rw [recB_len]
  unfold recF
  rw [List.length_append, List.length_append]
  simp only [List.length_cons, List.length_nil] at h2 ⊢
  omega
theorem dAt3 {D : Dsk} {a : Int} {num : Nat} {last : Int} {body t : List UInt8} (m : Mr D a num last body) (hn : num + 1 < U64) (ht : t.length ≤ 480) :
    (dAt D (a + (1 - last)) (recB (num + 1) t) 3).view = (D.view.del (a + (1 - last))).put (a + (1 - last)) (recB (num + 1) t) ∧ (dAt D (a + (1 - last)) (recB (num + 1) t) 3).ground = D.view.del (a + (1 - last)) := by
  have hw := m.two.why (recB_short hn ht)
  rw [show dAt D (a + (1 - last)) (recB (num + 1) t) 3 = (D.free (a + (1 - last))).sync.write (a + (1 - last)) (recB (num + 1) t) from rfl, write_view hw]
  refine ⟨?_, ?_⟩
  · rw [put_view]
    show (D.free (a + (1 - last))).view.put _ _ = _
    rw [free_view]
  · show (D.free (a + (1 - last))).view = _
    rw [free_view]
theorem awake12_ne {D : Dsk} {a : Int} {num : Nat} {last : Int} {body t : List UInt8} (m : Mr D a num last body) (hn : num + 1 < U64) (ht : t.length ≤ 480) :
    ∃ x, InI x ∧ ((dAt D (a + (1 - last)) (recB (num + 1) t) 3).view x).isSome ≠ ((dAt D (a + (1 - last)) (recB (num + 1) t) 3).ground x).isSome := by
  obtain ⟨h1, h2⟩ := dAt3 m hn ht
  have := m.at
  have := m.a0
  have := m.mi.l01
  refine ⟨a + (1 - last), by unfold InI; omega, ?_⟩
  rw [h1, h2]
  unfold SF.put SF.del
  simp
theorem awake12_pend {D : Dsk} {x : Int} {b : List UInt8} {a : Int} {num : Nat} {last : Int} {body : List UInt8} (m : Mr D a num last body) : (dAt D x b 3).pend.length ≤ 1000000 := by
  have := dAt_pend D x b 3
  have h := m.pend
  rw [h] at this
  simp at this
  omega
theorem Dp.apart {w W W' : World} {h h' h2 : Zn} {D D2 : Dsk} (d2 : Dp w W h2 D2) (d : Dp w W h D) (s : Stp h W h' W') (hne : ∀ b, h.has b → ¬ h2.has b) : Dp w W' h2 D2 :=
  ⟨d2.dk.apart d.dk s hne, d2.new, Turn.below d.below s.turn d.below.size d.new⟩

end Go.Proofs.YtojlldalhhibmaaDoor

namespace Go.Proofs.YtojlldalhhibmaaDoor
open Go Go.RowKit Go.ChangeShapes Go.WideShapes
set_option linter.unusedVariables false
section
variable {H : Type} {enc : TypeId × Value → H} {P : Program} {w : World} {base : Nat} {spare : Nat → Bool} {held : Bool}
theorem open_strs {r : Reach} {b0 : Nat} {t e : TypeId} {v : Value} {d : DataW H} {ps : List MemPlace} (ht : P.underlying t = some (.slice e)) (he : P.underlying e = some .string) (hC : P.cellsOf e = 1)
    (hval : Value.okWide P w r b0 t v) (h : DataW.Trod enc P w base spare held t v d ps) :
    ∃ l : List (List UInt8), (∀ s ∈ l, s.length ≤ 9223372036854775807) ∧ l.length ≤ 9223372036854775807 ∧ Sl (fun b => b < w.heap.size) w 1 v l.length (txts l) := by
  obtain ⟨fuel, hf⟩ := h
  obtain ⟨a', len', cap', rfl⟩ := okWide_slice ht hval
  rcases open_strings ht he hC hf with ⟨hcs, _⟩ | ⟨a, len, cap, ss, hcs, _, hl, hm, hz, _, hcell, hsz⟩
  · have hv : Value.slice a' len' cap' = .slice none 0 0 := by simpa [Value.cells] using hcs
    rw [hv]
    exact ⟨[], by simp, by simp, Sl.nil⟩
  · have hv : Value.slice a' len' cap' = .slice (some a) len cap := by simpa [Value.cells] using hcs
    rw [hv]
    have hls : len ≤ ss.length := by rw [hz]; split <;> omega
    have hlt : (ss.take len).length = len := by rw [List.length_take]; omega
    refine ⟨(ss.take len).map fun s => s.data.toList, ?_, by simp only [List.length_map, hlt]; simp only [maxLen] at hm; omega, ?_⟩
    · intro s hs
      obtain ⟨x, hx, rfl⟩ := List.mem_map.1 hs
      have := hsz x (List.mem_of_mem_take hx)
      unfold maxLen at this
      exact this
    · rw [List.length_map, hlt]
      refine ⟨by simp only [txts, List.length_map, hlt, Nat.mul_one], some a, cap, rfl, hl, hm, (fun h => by cases h), fun h0 => ?_⟩
      have hc0 := hcell 0 (by omega)
      have hblt := World.block_lt_of_cell? w _ hc0
      have hspot : a.spot = none := by
        cases hs : a.spot with
        | none => rfl
        | some z =>
          unfold World.cell? at hc0
          split at hc0
          · simp [Addr.add, hs] at hc0
          · cases hc0
      obtain ⟨ab, ao, asp⟩ := a
      simp only at hspot
      subst hspot
      refine ⟨ab, ao, rfl, by simpa [addr_add_none] using hblt, fun j u hu => ?_⟩
      have hj : j < len := by
        have := (List.getElem?_eq_some_iff.1 hu).1
        simp only [txts, List.length_map, hlt] at this
        exact this
      have hcj := hcell j (by omega)
      rw [addr_add_none] at hcj
      rw [hcj]
      simp only [txts, List.map_map, List.getElem?_map, List.getElem?_take, hj, if_true] at hu
      rw [List.getElem?_eq_getElem (by omega)] at hu
      simp only [Option.map_some, Function.comp_apply, st_of] at hu
      rw [List.getD_eq_getElem?_getD, List.getElem?_eq_getElem (by omega)]
      exact hu
end
end Go.Proofs.YtojlldalhhibmaaDoor

namespace Go.Proofs.YtojlldalhhibmaaDoor
open Go Go.RowKit
set_option linter.unusedVariables false

theorem dcopy2_dp {w W : World} {h : Zn} {D : Dsk} (d : Dp w W h D) (hok : D.Ok) (hp : D.pend.length ≤ 1000000) {pg : Nat} (hpg : h.g = pg) :
    Calls Tryd.prog 13 #[.pointer (some ⟨pg, 0, none⟩)] W fun e W' => ∃ h', e = .returned (.pointer (some ⟨h'.g, 0, none⟩)) ∧ Dp w W' h' D ∧ Below W.heap.size W W' ∧ ∀ b, h'.has b → ¬ h.has b := by
  subst hpg
  refine (dcopy2_any h D W d.dk hok hp).mono ?_
  rintro e W' ⟨h', he, h1, h2, h3⟩
  refine ⟨h', he, ⟨h1, fun b hb => Nat.le_trans d.below.size (h2 b hb), d.below.trans (h3.mono d.below.size)⟩, h3, fun b hb hb' => ?_⟩
  have := d.dk.lt hb'
  have := h2 b hb
  omega
/-- Another disk is written. -/
theorem Lp.apart {w W W' : World} {gl : Nat} {h h2 h2' : Zn} {l : Wl} {D2 : Dsk} (p : Lp w W gl h l) (d : Dp w W h2 D2) (s : Stp h2 W h2' W') (hne : ∀ b, h2.has b → ¬ h.has b) : Lp w W' gl h l := by
  obtain ⟨lv, sv, g⟩ := p.lg
  have dp := p.dp.apart d s hne
  exact ⟨dp, ⟨lv, sv, dp.dk, s.lb d.dk g.lb, KSl.same g.live (s.same (ks := [some 58]) d.dk (by decide) (by decide) (by decide)) (by decide), s.ub d.dk g.str⟩, p.gn, p.ok⟩
theorem Lp.rows {w W W' : World} {gl : Nat} {h h' : Zn} {l : Wl} (p : Lp w W gl h l) (m : Mtp h gl W h' W') {B n : Nat} {v : Value} {xs : List Value} (ho : W.ownsRow B 41 2 v n xs) : W'.ownsRow B 41 2 v n xs := by
  obtain ⟨lv, sv, g⟩ := p.lg
  exact own_sameK ho (m.sameL (ks := [some 41]) g.dk g.lb (by decide) (by decide) (by decide) (by decide)) (by decide)
/-- The law's own row of records grows. -/
theorem Lp.grown {w W W' : World} {gl : Nat} {h : Zn} {l : Wl} (p : Lp w W gl h l) {n : Nat} {v : Value} {xs : List Value} (ho : W.ownsRow w.heap.size 41 2 v n xs) (hg : W.grownBy W' v.ownBlock) : Lp w W' gl h l := by
  obtain ⟨lv, sv, g⟩ := p.lg
  have hk : SameK lgKs W W' := SameK.grown hg fun z t hz ht => by
    have := kind_own ho hz
    rw [this] at ht
    cases ht
    decide
  have dk := g.dk.same hk.dk
  exact ⟨⟨dk, p.dp.new, below_grown_own p.dp.below ho hg p.dp.below.size⟩, ⟨lv, sv, dk, g.lb.kept ho hg (by decide), KSl.same g.live hk (by decide), g.str.same hk (by decide)⟩, p.gn, p.ok⟩
theorem own_some {w : World} {B n k c : Nat} {e : TypeId} {size : Nat} {A : Option Addr} {xs : List Value} (h : w.ownsRow B e size (.slice A k c) n xs) (hn : 0 < n) : ∃ g, A = some ⟨g, 0, none⟩ := by
  rcases h.2 with ⟨h2, h3⟩ | ⟨g, cap, cur, h2, _⟩
  · omega
  · injection h2 with h2
    exact ⟨g, h2⟩
/-- A slice from its k-th element on. -/
theorem Sl.cutN {S : Nat → Prop} {w : World} {size n b o c k : Nat} {xs : List Value} (h : Sl S w size (.slice (some ⟨b, o, none⟩) n c) n xs) (hk : k ≤ n) :
    Sl S w size (.slice (if c = k then some ⟨b, o, none⟩ else some ⟨b, o + k * size, none⟩) (n - k) (c - k)) (n - k) (xs.drop (k * size)) := by
  obtain ⟨h1, A', c', hv, h3, h4, h5, h6⟩ := h
  injection hv with hA _ hc
  subst hA hc
  refine ⟨by rw [List.length_drop, h1, Nat.sub_mul], _, c - k, rfl, by omega, by omega, (fun hn => by split at hn <;> cases hn), fun hn => ?_⟩
  obtain ⟨b', o', hA, hS, hcell⟩ := h6 (by omega)
  injection hA with hA
  injection hA with hb ho
  subst hb ho
  rw [if_neg (by omega)]
  refine ⟨b, o + k * size, rfl, hS, fun j u hu => ?_⟩
  rw [List.getElem?_drop] at hu
  rw [Nat.add_assoc]
  exact hcell _ u hu
theorem rcs_drop (k : Nat) : ∀ (l : List (Nat × List UInt8)), (rcs l).drop (k * 2) = rcs (l.drop k) := by
  induction k with
  | zero => intro l; simp
  | succ k ih =>
    intro l
    cases l with
    | nil => simp [rcs]
    | cons r rs =>
      rw [show (k + 1) * 2 = k * 2 + 1 + 1 by omega, List.drop_succ_cons]
      show ((_ :: _ :: rcs rs).drop (k * 2 + 1 + 1)) = _
      rw [List.drop_succ_cons, List.drop_succ_cons, ih]
/-- The law's state behind i bodies. -/
structure AgSt (w W : World) (gl : Nat) (h : Zn) (pg n size : Nat) (l : Wl) (SB : List Sb) (mv : Value) (i : Nat) : Prop where
  lp : Lp w W gl h l
  cl : Cl l SB
  room : Roomy l
  hg : h.g = pg
  a : l.a = 0
  n : l.n = n
  size : l.size = size
  pend : l.D.pend.length ≤ i * 2048
  cnt : (bods SB).length ≤ i
  want : W.ownsRow w.heap.size 41 2 mv (bods SB).length (rcs (numbered 1 (bods SB)))
theorem AgSt.last {w W : World} {gl : Nat} {h : Zn} {pg n size : Nat} {l : Wl} {SB : List Sb} {mv : Value} {i : Nat} (s : AgSt w W gl h pg n size l SB mv i) : l.last = (bods SB).length := by
  have h1 := s.cl.last
  rw [endN_eq] at h1
  omega
/-- A body is refused. -/
theorem AgSt.skip {w W W' : World} {gl : Nat} {h h' : Zn} {pg n size : Nat} {l : Wl} {SB : List Sb} {mv : Value} {i : Nat} (s : AgSt w W gl h pg n size l SB mv i) {t : List UInt8} (e : (wAppend l t).1 = l) (p : Lp w W' gl h' (wAppend l t).1) (hg : h'.g = pg) (m : Mtp h gl W h' W') : AgSt w W' gl h' pg n size l SB mv (i + 1) := by
  rw [e] at p
  exact ⟨p, s.cl, s.room, hg, s.a, s.n, s.size, Nat.le_trans s.pend (Nat.mul_le_mul_right _ (Nat.le_succ i)), Nat.le_succ_of_le s.cnt, s.lp.rows m s.want⟩
theorem AgSt.later {w W W' : World} {gl : Nat} {h : Zn} {pg n size : Nat} {l : Wl} {SB : List Sb} {mv : Value} {i : Nat} (s : AgSt w W gl h pg n size l SB mv i) (hb : Below W.heap.size W W') : AgSt w W' gl h pg n size l SB mv i :=
  ⟨s.lp.later hb, s.cl, s.room, s.hg, s.a, s.n, s.size, s.pend, s.cnt, own_later s.want hb⟩
theorem AgSt.apart {w W W' : World} {gl : Nat} {h h2 h2' : Zn} {D2 : Dsk} {pg n size : Nat} {l : Wl} {SB : List Sb} {mv : Value} {i : Nat} (s : AgSt w W gl h pg n size l SB mv i) (d : Dp w W h2 D2) (st : Stp h2 W h2' W') (hne : ∀ b, h2.has b → ¬ h.has b) : AgSt w W' gl h pg n size l SB mv i :=
  ⟨s.lp.apart d st hne, s.cl, s.room, s.hg, s.a, s.n, s.size, s.pend, s.cnt, own_sameK s.want (st.same (ks := [some 41]) d.dk (by decide) (by decide) (by decide)) (by decide)⟩
/-- A body is put. -/
theorem AgSt.next {w W W2 : World} {gl : Nat} {h h' : Zn} {pg n size : Nat} {l : Wl} {SB SB' : List Sb} {mv mv2 : Value} {i : Nat} (s : AgSt w W gl h pg n size l SB mv i) (hs : size ≤ 4) {t : List UInt8} (a : ApCl l SB t (wAppend l t).1 SB') (p : Lp w W2 gl h' (wAppend l t).1) (hg : h'.g = pg)
    (hown : W2.ownsRow w.heap.size 41 2 mv2 ((bods SB).length + 1) (rcs (numbered 1 (bods SB)) ++ rcs [((bods SB).length + 1, t)])) (hc : (bods SB).length + 1 < U64) : AgSt w W2 gl h' pg n size (wAppend l t).1 SB' mv2 (i + 1) := by
  refine ⟨p, a.cl, a.room, hg, by rw [a.par.1, s.a], by rw [a.par.2.1, s.n], by rw [a.par.2.2.1, s.size], ?_, ?_, ?_⟩
  · have h1 := a.pend
    have h2 := s.pend
    have h3 : 512 * l.size ≤ 2048 := by rw [s.size]; omega
    rw [Nat.add_mul]
    omega
  · rw [a.bods, List.length_append, List.length_singleton]
    have := s.cnt
    omega
  · rw [a.bods, List.length_append, List.length_singleton, numbered_append, rcs_append]
    have e : numbered (1 + (bods SB).length) [t] = [((bods SB).length + 1, t)] := by
      simp only [numbered]
      rw [Nat.add_comm 1, Nat.mod_eq_of_lt hc]
    rw [e]
    exact hown

set_option maxHeartbeats 8000000 in
set_option maxRecDepth 100000 in
theorem law_WalAgain (sg sc : Nat) (v : Value) (ts : List (List UInt8)) (w : World) (hb : BitsOk w) (hsg : sg < 256) (hsc : sc < 256) (hv : (∀ s ∈ ts, s.length ≤ 9223372036854775807) ∧ ts.length ≤ 9223372036854775807 ∧ Sl (fun b => b < w.heap.size) w 1 v ts.length (txts ts)) :
    Calls Tryd.prog 4 #[.int .u8 (sg : Int), .int .u8 (sc : Int), v] w fun e w' => e = .returned (.bool true) ∧ Below w.heap.size w w' := by
  obtain ⟨_, hmx, hsl⟩ := hv
  obtain ⟨_, A0, c0, rfl, hlc0, hcm0, hA00, hA0⟩ := hsl
  have HA := Lib.hid hA0
  have HB := Lib.hid hb
  have OK0 : Hid ((Dsk.new 200).Ok) := Dsk.Ok.new (by omega) (by omega)
  have PZ : Hid ((Dsk.new 200).pend.length ≤ 800000) := by show ([] : List Pnd).length ≤ _; simp
  clear hb hA0 hA00
  obtain ⟨n, hn⟩ : ∃ n, 2 + sg % 6 = n := ⟨_, rfl⟩
  obtain ⟨size, hsz⟩ : ∃ size, 1 + sc % 4 = size := ⟨_, rfl⟩
  have hn2 : 2 ≤ n ∧ n ≤ 7 := by omega
  have hs2 : 1 ≤ size ∧ size ≤ 4 := by omega
  have HMUL : Hid ((0 : Int) + (n : Int) * size ≤ 200 ∧ (n : Int) * size ≤ 200) := by
    have h1 := Nat.mul_le_mul hn2.2 hs2.2
    have e : ((n * size : Nat) : Int) = (n : Int) * size := by push_cast; rfl
    rw [Hid]
    omega
  have hni : (2 : Int) + (sg : Int) % 6 = (n : Int) := by omega
  have hsi : (1 : Int) + (sc : Int) % 4 = (size : Int) := by omega
  clear hn hsz
  go_enter Tryd.func4, Tryd.ntmps4
  go_wp2_with fail
  refine (dnew_any 200 w (by omega) (by omega)).mono ?_
  rintro e w1 ⟨h, rfl, hd, hnew, hbl⟩
  have D1 : Hid (Dp w w1 h (Dsk.new 200)) := ⟨hd, hnew, hbl⟩
  clear hd hnew hbl
  go_wp2_with fail
  refine (awake8_any w1 (HB.out.later D1.out.below)).mono ?_
  rintro e w2 ⟨rfl, hb2⟩
  have D2 := Lib.hid (D1.out.later hb2)
  clear hb2 D1
  by_cases h40 : 40 < ts.length
  · go_wp2_with fail
    refine (awake8_any w2 (HB.out.later D2.out.below)).mono ?_
    rintro e w3 ⟨rfl, hb3⟩
    go_wp2_with fail
    go_ret
    exact ⟨rfl, (D2.out.later hb3).below⟩
  · go_wp2_with fail
    clear hni hsi
    refine (lopen_lp (a := 0) (n := n) (size := size) (frm := 0) D2.out OK0.out (by omega) (by omega) (by omega) (by omega) (by omega) (by have := HMUL.out; omega) (by unfold U64; omega) PZ.out rfl).mono ?_
    rintro e w3 ⟨gl, A3, k3, c3, h3, rfl, hp, hg3, ho, hs⟩
    rw [wOpen_none (D := Dsk.new 200) (fun _ => rfl)] at hp ho
    obtain rfl : k3 = 0 := own_len ho
    have S3 : Hid (AgSt w (w3.alloc (.cells #[] 41)) gl h3 h.g n size { D := (Dsk.new 200).sync, a := 0, n := n, size := size, live := [], stream := [], last := 0, synced := 0 } [] (.slice (some ⟨w3.heap.size, 0, none⟩) 0 0) 0) := by
      have qa := (Below.refl w3.heap.size w3).alloc (Nat.le_refl _) (.cells #[] 41)
      refine ⟨hp.later qa, Cl.start (fun _ => rfl) 0 n size, ⟨?_, ?_⟩, hg3, rfl, rfl, rfl, Nat.le_refl _, Nat.le_refl _, ?_⟩
      · show (0 : Int) + (n : Int) * size ≤ 200
        exact HMUL.out.1
      · show (n : Int) * size ≤ 200
        exact HMUL.out.2
      · exact World.ownsRow_made w3 #[] 0 hp.dp.below.size (by simp [maxLen]) (by simp)
    clear hp hg3 ho hs D2
    go_wp2_with fail
    generalize w3.alloc _ = w4 at *
    generalize h.g = pg at *
    have S4 : Hid (∃ (h' : Zn) (l : Wl) (SB : List Sb), AgSt w w4 gl h' pg n size l SB (.slice (some ⟨w3.heap.size, 0, none⟩) 0 0) 0 ∧ (bods SB).length = 0) := ⟨h3, _, [], S3.out, rfl⟩
    clear S3
    generalize w3.heap.size = gw0 at *
    have HLE : Hid (ts.length ≤ 40) := by rw [Hid]; omega
    clear h40
    go_loopw [14, 15] (fun mv iv wr => ∃ (i gw m cw : Nat) (h' : Zn) (l : Wl) (SB : List Sb), iv = .int .i64 (i : Int) ∧ i ≤ ts.length ∧ mv = .slice (some ⟨gw, 0, none⟩) m cw ∧ Hid (m = (bods SB).length) ∧ Hid (AgSt w wr gl h' pg n size l SB (.slice (some ⟨gw, 0, none⟩) m cw) i)) (fun _ iv _ => ts.length - (intOf iv).toNat)
    case atStart =>
      obtain ⟨h', l, SB, h1, h2⟩ := S4.out
      exact ⟨0, gw0, 0, 0, h', l, SB, rfl, Nat.zero_le _, rfl, h2.symm, h1⟩
    case round =>
      obtain ⟨i, gw, m, cw, h', l, SB, rfl, hi, rfl, HM, ST⟩ := hrel
      clear S4
      by_cases hil : i < ts.length
      · obtain ⟨b, o, rfl, hbl, hcell⟩ := HA.out (by omega)
        have hcs : wr.cell? ⟨b, o + i, none⟩ = some (.string (st ts[i])) := (ST.out.lp.dp.below.cell (p := ⟨b, o + i, none⟩) hbl).trans (hcell _ _ (txts_at hil))
        clear hcell
        generalize ts[i] = t at *
        by_cases h15 : 1500 < t.length
        · go_wp2_with fail
          go_ret
          exact ⟨rfl, ST.out.lp.dp.below⟩
        · have hen : endN 1 SB < 1000000 := by
            rw [endN_eq]
            have h1 := ST.out.cnt
            have h2 := HLE.out
            omega
          have hap := ST.out.cl.append ST.out.lp.ok ST.out.room t hen
          have hcn : (bods SB).length ≤ 40 := Nat.le_trans ST.out.cnt (Nat.le_trans hi HLE.out)
          have hpn : l.D.pend.length ≤ 800000 := Nat.le_trans ST.out.pend (Nat.le_trans (Nat.mul_le_mul_right _ (Nat.le_trans hi HLE.out)) (by omega))
          have HCN := Lib.hid hcn
          clear hen hcn
          go_wp2_with fail
          refine (lappend_lp (t := t) ST.out.lp HB.out (by omega) hpn ST.out.hg).mono ?_
          rintro e w5 ⟨rfl, h5, hp5, hg5, hm5⟩
          have P5 := Lib.hid hp5
          have G5 := Lib.hid hg5
          have M5 := Lib.hid hm5
          clear hp5 hg5 hm5 hpn
          rcases hap with ⟨he, hl, hq, -, -⟩ | ⟨he, SB', ha⟩
          · have ST5 := Lib.hid (ST.out.skip hl P5.out G5.out M5.out)
            rw [hq]
            have he2 : ∃ x : Nat, (wAppend l t).2.2 = x ∧ x ≠ 0 := by rcases he with h9 | h9 <;> exact ⟨_, h9, by omega⟩
            obtain ⟨x, hx, hx0⟩ := he2
            rw [hx]
            have hx1 : ¬ (x : Int) = 0 := by omega
            have hx2 : ((x : Int) == 0) = false := by rw [beq_eq_false_iff_ne]; omega
            clear he hl hq hx hx0
            go_wp2_with fail
            go_roundw
            case rel => exact ⟨i + 1, gw, m, cw, h5, l, SB, by go_num, by omega, rfl, HM, ST5⟩
            case measure => simp [intOf]; omega
          · have e1 : (wAppend l t).2.1 = (bods SB).length + 1 := by rw [he, endN_eq]; simp only; omega
            have e2 : (wAppend l t).2.2 = 0 := by rw [he]
            rw [e1, e2]
            have HAC := Lib.hid ha
            have O5 := Lib.hid (ST.out.lp.rows M5.out ST.out.want)
            obtain ⟨q, hq⟩ : ∃ q, (bods SB).length + 1 = q := ⟨_, rfl⟩
            have HQ := Lib.hid hq
            rw [hq]
            have hc5 : w5.cell? ⟨b, o + i, none⟩ = some (.string (st t)) := (P5.out.dp.below.cell (p := ⟨b, o + i, none⟩) hbl).trans ((ST.out.lp.dp.below.cell (p := ⟨b, o + i, none⟩) hbl).symm.trans hcs)
            have hM1 : Hid ((bods SB).length + 1 ≤ maxLen) := by have := HCN.out; simp only [Hid, maxLen]; omega
            have hM2 : Hid (((bods SB).length + 1) * 24 ≤ 140737488355328) := by have := HCN.out; rw [Hid]; omega
            have hM3 : Hid (∀ o : Obj, w.heap.size ≤ (w5.alloc o).heap.size) := fun o => by have := P5.out.dp.below.size; simp; omega
            clear he e1 e2 hq ha hcs
            go_wp2_with (at_builtin; refine wpList_append_sl _ rfl (.tmp 89) (.tmp 96) elemRec rfl (World.ownsRow.alloc O5.out _) (Sl.newrec (S := fun _ => True) w5 (q, t) rfl trivial) rfl rfl (rcs_one _) hM1.out hM2.out (hM3.out _) ?_; intro A8 k8 c8 w8 hown8 hg8 hat8)
            obtain ⟨g8, rfl⟩ := own_some hown8 (by omega)
            have hk8 := own_len hown8
            have P8 := Lib.hid ((P5.out.later ((Below.refl _ _).alloc (Nat.le_refl _) _)).grown (World.ownsRow.alloc O5.out _) hg8)
            have ST8 := Lib.hid (ST.out.next hs2.2 HAC.out P8.out G5.out (by have h9 := hown8; rw [← HQ.out] at h9; exact h9) (by have := HCN.out; unfold U64; omega))
            have HM8 : Hid (k8 = (bods SB').length) := by rw [Hid, HAC.out.bods, hk8]; simp
            clear hown8 hg8 hat8 hk8
            go_roundw
            case rel => exact ⟨i + 1, g8, k8, c8, h5, _, SB', by go_num, by omega, rfl, HM8, ST8⟩
            case measure => simp [intOf]; omega
      · obtain rfl : i = ts.length := by omega
        have HL : Hid (l.last = m) := by rw [Hid, ST.out.last, HM.out]
        have HMB : Hid (m ≤ 40) := by have h1 := ST.out.cnt; have h2 := HLE.out; rw [Hid, HM.out]; omega
        have hcm : m ≤ cw := by
          obtain ⟨_, A, c, h1, h2, _⟩ := Sl.of_own (by omega) ST.out.want
          injection h1 with _ h3 h4
          have := HM.out
          omega
        have hmb : m ≤ 40 := HMB.out
        clear hil hi
        go_wp2_with fail
        go_loopw [18] (fun kv wq => ∃ k : Nat, kv = .int .i64 (k : Int) ∧ k ≤ m + 1 ∧ Hid (AgSt w wq gl h' pg n size l SB (.slice (some ⟨gw, 0, none⟩) m cw) ts.length)) (fun kv _ => m + 1 - (intOf kv).toNat)
        case atStart => exact ⟨0, rfl, Nat.zero_le _, ST⟩
        case round =>
          obtain ⟨k, rfl, hk, ST2⟩ := hrel
          clear ST
          by_cases hkm : k ≤ m
          · have hW := wOpen_cl ST2.out.cl (k := k) (by have := HL.out; omega)
            rw [ST2.out.a, ST2.out.n, ST2.out.size] at hW
            obtain ⟨_, _, _, _, _, hw1, _, hw2⟩ := hW
            have HW1 : Hid ((wOpen l.D 0 n size k).1.last = m) := by rw [Hid, hw1]; exact HL.out
            have HW2 := Lib.hid hw2
            have hpn : l.D.pend.length ≤ 800000 := Nat.le_trans ST2.out.pend (Nat.le_trans (Nat.mul_le_mul_right _ HLE.out) (by omega))
            have HPN := Lib.hid hpn
            clear hw1 hw2 hpn
            go_wp2_with fail
            refine (dcopy2_dp ST2.out.lp.dp ST2.out.lp.ok.dok (by have := HPN.out; omega) ST2.out.hg).mono ?_
            rintro e w5 ⟨hc, rfl, hdc, hb5, hap⟩
            have ST5 := Lib.hid (ST2.out.later hb5)
            have DC := Lib.hid hdc
            have AP := Lib.hid hap
            clear hdc hb5 hap ST2
            go_wp2_with fail
            refine (lopen_lp (a := 0) (n := n) (size := size) (frm := k) DC.out ST5.out.lp.ok.dok (by omega) (by omega) (by omega) (by omega) (by omega) (by have := HMUL.out; omega) (by have := HMB.out; unfold U64; omega) HPN.out rfl).mono ?_
            rintro e w6 ⟨gl2, A6, k6, c6, hc6, rfl, hp6, -, ho6, hs6⟩
            have P6 := Lib.hid hp6
            have ST6 := Lib.hid (ST5.out.apart DC.out hs6 AP.out)
            obtain ⟨R, hR⟩ : ∃ R, (numbered 1 (bods SB)).drop k = R := ⟨_, rfl⟩
            rw [HW2.out, hR] at ho6
            have O6 := Lib.hid ho6
            have hRl : R.length = m - k := by rw [← hR, List.length_drop, numbered_len, HM.out]
            have hcut := Sl.cutN (k := k) (Sl.of_own (by omega) (show w6.ownsRow w.heap.size 41 2 (.slice (some ⟨gw, 0, none⟩) m cw) m (rcs (numbered 1 (bods SB))) by have h9 := ST6.out.want; rw [← HM.out] at h9; exact h9)) hkm
            rw [rcs_drop, hR, Nat.zero_add] at hcut
            have hcut2 : Sl (fun b => w.heap.size ≤ b ∧ b < w6.heap.size) w6 2 (.slice (if cw = k then some ⟨gw, 0, none⟩ else some ⟨gw, k * 2, none⟩) (m - k) (cw - k)) R.length (rcs R) := by rw [hRl]; exact hcut
            clear hp6 ho6 hs6 ST5 DC AP hR hcut HW2 hRl
            by_cases hck : cw = k
            · obtain rfl : m = cw := by omega
              obtain rfl : m = k := by omega
              rw [if_pos rfl, Nat.sub_self] at hcut2
              have HC2 := Lib.hid hcut2
              clear hcut2 hck
              go_wp2_with (first
                | (go_at_call 8; refine (llast_lp P6.out).mono ?_; rintro e w9 ⟨rfl, rfl⟩; rw [HW1.out])
                | fail)
              refine (rsame_any _ _ _ _ R R w6 (Sl.of_own (by omega) O6.out) HC2.out).mono ?_
              rintro e w9 ⟨rfl, nn, rfl⟩
              go_wp2_with fail
              have ST9 := Lib.hid (ST6.out.later (below_drewN (Below.refl _ _) nn))
              go_roundw
              case rel => exact ⟨m + 1, by go_num, by omega, ST9⟩
              case measure => simp [intOf]
            · rw [if_neg hck] at hcut2
              have HC2 := Lib.hid hcut2
              clear hcut2
              go_wp2_with (first
                | (go_at_call 8; refine (llast_lp P6.out).mono ?_; rintro e w9 ⟨rfl, rfl⟩; rw [HW1.out])
                | fail)
              refine (rsame_any _ _ _ _ R R w6 (Sl.of_own (by omega) O6.out) HC2.out).mono ?_
              rintro e w9 ⟨rfl, nn, rfl⟩
              go_wp2_with fail
              have ST9 := Lib.hid (ST6.out.later (below_drewN (Below.refl _ _) nn))
              go_roundw
              case rel => exact ⟨k + 1, by go_num, by omega, ST9⟩
              case measure => simp [intOf]; omega
          · obtain rfl : k = m + 1 := by omega
            have hle : (l.live.length : Int) ≤ (n : Int) := by
              have h1 := ST2.out.lp.ok.len
              have h2 := ST2.out.n
              omega
            go_wp2_with (first
              | (go_at_call 8; refine (llast_lp ST2.out.lp).mono ?_; rintro e w9 ⟨rfl, rfl⟩; rw [HL.out])
              | (go_at_call 9; refine (llive_lp ST2.out.lp).mono ?_; rintro e w9 ⟨rfl, rfl⟩)
              | fail)
            go_ret
            exact ⟨by simp, ST2.out.lp.dp.below⟩
end Go.Proofs.YtojlldalhhibmaaDoor

namespace Go.Proofs.YtojlldalhhibmaaDoor
open Go Go.ChangeShapes Go.WideShapes Go.RowKit
set_option linter.unusedVariables false
section
variable {H : Type} {enc : TypeId × Value → H} {P : Program}

theorem trodAll_later {w w' : World} {base : Nat} {sp : Nat → Bool} {hd : Bool} : ∀ {ts : List TypeId} {vs : List Value} {ds : List (DataW H)} {ps : List MemPlace}, DataW.TrodAll enc P w base sp hd ts vs ds ps → (∀ p ∈ ps, w.sameAt w' p) → DataW.TrodAll enc P w' base sp hd ts vs ds ps
  | [], [], [], _, h, _ => h
  | _ :: _, _ :: _, _ :: _, _, ⟨p, q, ⟨n, h1⟩, h2, e⟩, hs => ⟨p, q, ⟨n, DataW.trod_carry n _ _ _ h1 (fun x hx => hs x (by rw [e]; exact List.mem_append_left _ hx))⟩, trodAll_later h2 (fun x hx => hs x (by rw [e]; exact List.mem_append_right _ hx)), e⟩

/-- The post of a law: it returned what the specification says; memory has only grown. -/
theorem law_post {f : Func} {s : ChangeSpec} {W W' : World} {args : Array Value} {v : Value} {ds gs : List (DataW H)} {before : List MemPlace} (K : Kids P (· < P.types.size)) (hz : ∀ t e, t < P.types.size → P.underlying t = some (.slice e) → 0 < P.cellsOf e)
    (hT : ∀ t ∈ f.params.toList, t < P.types.size) (hvs : s.vars = []) (hW : DataW.Whole enc P f.params.toList s.vars false W args.toList ds gs before) (hb : Below W.heap.size W W')
    (hargs : (s.fn H (ds ++ gs)).args = ds) (hvars : (s.fn H (ds ++ gs)).vars = [])
    (hres : DataW.TrodAll enc P W' W.heap.size (fun _ => false) false f.resultTypes.toList (v.resultList f.resultTypes.size) (s.fn H (ds ++ gs)).results []) :
    s.post enc P f false true false false W args v W' := by
  have hlt : ∀ p ∈ before, p.block < W.heap.size := fun p hp => hW.lt p hp
  have hW0 := hW
  obtain ⟨p, q, hA, hV, hpq, hfz, hnd⟩ := hW
  have hold : ∀ x ∈ p, (fun b => decide (b < W.heap.size)) x.block = true := fun x hx => by simpa using hlt x (by rw [hpq]; exact List.mem_append_left _ hx)
  have hA1 := DataW.TrodAll.respare K hz (spare' := fun b => decide (b < W.heap.size)) hT hA hold
  have hA2 := trodAll_later (w' := W') hA1 (fun x hx => hb.same (hlt x (by rw [hpq]; exact List.mem_append_left _ hx)))
  refine ⟨ds, gs, before, [], p, [], hW0, hres, by rw [hargs]; exact hA2, ?_, hb.frame _, fun h => by cases h⟩
  rw [hvs, hvars]
  exact rfl
end
end Go.Proofs.YtojlldalhhibmaaDoor

namespace Go.Proofs.YtojlldalhhibmaaDoor
open Go.ChangeShapes Go.WideShapes Go.ChangeAt Go.RowKit
open Go.ChangeMaps (open_string shut_string)
set_option linter.unusedVariables false

theorem own : ownKnob Tryd.prog.godebug = none := by kernel_rfl
theorem laidOut : laidOutB Tryd.prog = true := by kernel_rfl
/-- The reading stays among the rows of the table of types. -/
theorem kids : Kids Tryd.prog (· < Tryd.prog.types.size) := kids_rows laidOut (by kernel_rfl)
theorem full : ∀ t e, t < Tryd.prog.types.size → Tryd.prog.underlying t = some (.slice e) → 0 < Tryd.prog.cellsOf e := slices_full_of _ (by kernel_rfl)
theorem gTab : Tryd.prog.globalNamed "lapstone/num.bits" = some 0 := by kernel_rfl
theorem gTabType : (Tryd.prog.globals[0]?).map (·.type) = some 112 := by kernel_rfl
theorem cellsT : Tryd.prog.cellsOf 112 = 9 := by kernel_rfl
theorem cellsE : Tryd.prog.cellsOf 111 = 1 := by kernel_rfl

theorem bytes_len (s : ByteArray) : s.data.toList.length = s.size := rfl
theorem u64_nat {x : Int} (h : (Lit.int .u64 x).wf = true) : ∃ y : Nat, x = (y : Int) ∧ y < U64 := by
  simp only [Lit.wf, Bool.and_eq_true, decide_eq_true_eq] at h
  have h0 : IntKind.u64.min = 0 := rfl
  have h1 : IntKind.u64.max = 18446744073709551615 := rfl
  refine ⟨x.toNat, by omega, ?_⟩
  unfold U64
  omega
theorem u32_nat {x : Int} (h : (Lit.int .u32 x).wf = true) : ∃ y : Nat, x = (y : Int) ∧ y < 4294967296 := by
  simp only [Lit.wf, Bool.and_eq_true, decide_eq_true_eq] at h
  have h0 : IntKind.u32.min = 0 := rfl
  have h1 : IntKind.u32.max = 4294967295 := rfl
  exact ⟨x.toNat, by omega, by omega⟩
theorem u16_nat {x : Int} (h : (Lit.int .u16 x).wf = true) : ∃ y : Nat, x = (y : Int) ∧ y < 65536 := by
  simp only [Lit.wf, Bool.and_eq_true, decide_eq_true_eq] at h
  have h0 : IntKind.u16.min = 0 := rfl
  have h1 : IntKind.u16.max = 65535 := rfl
  exact ⟨x.toNat, by omega, by omega⟩
theorem u8_nat {x : Int} (h : (Lit.int .u8 x).wf = true) : ∃ y : Nat, x = (y : Int) ∧ y < 256 := by
  simp only [Lit.wf, Bool.and_eq_true, decide_eq_true_eq] at h
  have h0 : IntKind.u8.min = 0 := rfl
  have h1 : IntKind.u8.max = 255 := rfl
  exact ⟨x.toNat, by omega, by omega⟩
theorem int_bd {x : Int} (h : (Lit.int .i64 x).wf = true) : -9223372036854775808 ≤ x ∧ x ≤ 9223372036854775807 := by
  simp only [Lit.wf, Bool.and_eq_true, decide_eq_true_eq] at h
  exact h
theorem str_len {s : ByteArray} (h : s.size ≤ maxLen) : s.data.toList.length ≤ 9223372036854775807 := by
  rw [bytes_len]
  simp only [maxLen] at h
  omega

/-- WHAT THE ROWS' LIST GIVES: the table's cells hold its nine numbers. -/
theorem table {W : World} (h : laidMetH Tryd.prog [("lapstone/num.bits", Rows.laid_lapstone_num_bits)] W) : Lib.TabIs Tryd.prog W "lapstone/num.bits" .u64 [0, 8, 16, 24, 32, 40, 48, 56, 64] :=
  Lib.tabIs_of_head (rest := []) gTab gTabType Tryd.underlying112 Tryd.underlying111 cellsE cellsT h
theorem bitsOk {W : World} (h : laidMetH Tryd.prog [("lapstone/num.bits", Rows.laid_lapstone_num_bits)] W) : BitsOk W := by
  intro i hi
  have hc := (table h).cell gTab i hi
  rw [hc]
  match i, hi with
  | 0, _ | 1, _ | 2, _ | 3, _ | 4, _ | 5, _ | 6, _ | 7, _ | 8, _ => rfl

/-- A WORLD FOR THE WITNESS: the settled one, the table (block 0) holding what its initialiser lays. -/
noncomputable def laidWorld (os : Os) : World :=
  { World.holding Tryd.prog os ⟨#[], #[], []⟩ with heap := (World.holding Tryd.prog os ⟨#[], #[], []⟩).heap.modify 0 fun
      | .cells _ t frozen => .cells #[.int .u64 0, .int .u64 8, .int .u64 16, .int .u64 24, .int .u64 32, .int .u64 40, .int .u64 48, .int .u64 56, .int .u64 64] t frozen
      | o => o }
end Go.Proofs.YtojlldalhhibmaaDoor
