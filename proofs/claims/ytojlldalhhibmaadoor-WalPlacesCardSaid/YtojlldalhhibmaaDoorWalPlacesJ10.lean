/- What the proof of WalPlaces needs, part 10. -/
import Derived.Test.YtojlldalhhibmaaDoorWalPlacesJ9
import Derived.ReadAgain
import Derived.Below
import Derived.ChangeSame
import Derived.ChangeShapes
import Derived.Test.YtojlldalhhibmaaDoorRows
import Derived.ProofKit
import Derived.OpenShut
import Derived.ChangeMaps5
import Derived.Deep.DeepHandedRow
import Derived.Lib.LaidTab
import Derived.Lib.SmallJoins

namespace Go.Proofs.YtojlldalhhibmaaDoor
open Go Go.RowKit
set_option linter.unusedVariables false

theorem wLook_recs {D : Dsk} (hok : D.Ok) {a : Int} {size i q : Nat} {rs : List Rcd} (hs : size ≤ 64) (h : wLook D.view a size i = some (q, rs)) : rs.length ≤ 40000 := by
  have hl := wBytes_len hok size (a + (i : Int) * size)
  unfold wLook wLookB at h
  split at h
  · split at h
    · injection h with h
      injection h with _ h
      subst h
      refine Nat.le_trans (recScan_len _ _ _) ?_
      rw [List.length_drop]
      omega
    · cases h
  · cases h
theorem ChSt.fin {all : List Fd} {frm n : Nat} (hall : ∀ y ∈ all, y.at' < n ∧ y.recs.length ≤ 40000) : ∀ (m : Nat) {live : List Sg} {last : Nat} {out : List Rcd} {nx : Option Fd}, ChSt all frm n live last out nx → live.length + m = n + 1 →
    ∃ live' last' out', wChain all frm (n + 1) [] frm [] (wPick frm all none) = (live', last', out') ∧ (live'.map (·.at')).Nodup ∧ (∀ s ∈ live', s.at' < n) ∧ last' < U64 ∧ out'.length ≤ n * 40000
  | 0, live, last, out, nx, s, hm => by have := s.len; omega
  | m + 1, live, last, out, none, s, hm => ⟨live, last, out, s.end, s.nd, s.lt, s.last, Nat.le_trans s.out (Nat.mul_le_mul_right _ s.len)⟩
  | m + 1, live, last, out, some x, s, hm => ChSt.fin hall m (s.next hall) (by rw [List.length_append, List.length_singleton]; omega)
section
variable {D : Dsk} {a : Int} {n size frm : Nat}
theorem wOpen_fin (hok : D.Ok) (hs : size ≤ 64) (hf : frm < U64) : ∃ live last out, wChain (wAll D.view a size n) frm (n + 1) [] frm [] (wPick frm (wAll D.view a size n) none) = (live, last, out) ∧ (live.map (·.at')).Nodup ∧ (∀ s ∈ live, s.at' < n) ∧ last < U64 ∧ out.length ≤ n * 40000 :=
  ChSt.fin (fun y hy => ⟨(wAll_mem hy).1, wLook_recs hok hs (wAll_mem hy).2⟩) (n + 1) (ChSt.start hf) (by simp)
theorem wOpen_D (D : Dsk) (a : Int) (n size frm : Nat) : (wOpen D a n size frm).1.a = a ∧ (wOpen D a n size frm).1.n = n ∧ (wOpen D a n size frm).1.size = size ∧ (wOpen D a n size frm).1.stream = [] := ⟨rfl, rfl, rfl, rfl⟩
theorem wOpen_Ok (hok : D.Ok) (hn2 : 2 ≤ n) (hn : n ≤ 64) (hs1 : 1 ≤ size) (hs : size ≤ 64) (h0 : 0 ≤ a) (h1 : a + (n : Int) * size ≤ 65536) (hf : frm < U64) : (wOpen D a n size frm).1.Ok := by
  obtain ⟨live, last, out, e, h2, h3, h4, _⟩ := wOpen_fin (D := D) (a := a) (n := n) hok hs hf
  have hD := ow_D e
  have hl := ow_last e
  have hy := ow_synced e
  have hv := ow_live e
  have hm : max last frm < U64 := by omega
  refine ⟨by rw [hD]; exact (wFreeAll_ok hok a size live n).sync, hn2, hn, hs1, hs, h0, h1, by rw [hl]; exact hm, by rw [hy]; exact hm, by rw [hv]; exact h2, by rw [hv]; exact h3, fun h => (h rfl).elim, Nat.zero_le _⟩
theorem wOpen_pend (hok : D.Ok) (hs : size ≤ 64) (hf : frm < U64) : (wOpen D a n size frm).1.D.pend = [] := by
  obtain ⟨live, last, out, e, _⟩ := wOpen_fin (D := D) (a := a) (n := n) hok hs hf
  rw [ow_D e]
  rfl
end
theorem Wl.Ok.append {l : Wl} (ok : l.Ok) (t : List UInt8) : (wAppend l t).1.Ok := by
  obtain ⟨q, hq⟩ : ∃ q, q = (l.last + 1) % U64 := ⟨_, rfl⟩
  have hqU : q < U64 := by rw [hq]; exact Nat.mod_lt _ (by unfold U64; omega)
  obtain ⟨head, hh⟩ : ∃ head, head = recB q titleB := ⟨_, rfl⟩
  obtain ⟨b, hb⟩ : ∃ b, b = recB q t := ⟨_, rfl⟩
  by_cases hlong : 32768 < t.length ∨ 512 * l.size < head.length + b.length
  · rw [wAppend_long hq hh hb hlong]; exact ok
  have key : ∀ {L : List Sg} {s : List UInt8} {i : Nat} {fr : Bool}, ApC l q head b L s i fr → (wAppend l t).1.Ok := by
    intro L s i fr c
    obtain ⟨r, hr⟩ : ∃ r, wPut l.D (l.a + (i : Int) * l.size) (s ++ b) (s ++ b).length (apFrom l fr / 512) = r := ⟨_, rfl⟩
    have hD : r.1.Ok := by rw [← hr]; exact wPut_ok _ _ _ _ ok.dok
    by_cases h0 : r.2 = 0
    · rw [wAppend_ok hq hh hb hlong c hr h0]
      exact c.ok ok hqU hlong hD
    · rw [wAppend_no hq hh hb hlong c hr h0]
      cases fr with
      | true => exact (ok.drop (wFree_ok hD _ _)).sync
      | false => exact ok.drop hD
  by_cases hfr : l.stream = [] ∨ 512 * l.size < l.stream.length + b.length
  · cases hw : wFresh l.live l.n with
    | none => rw [wAppend_full hq hh hb hlong hfr hw]; exact ok
    | some i => exact key (L := l.live ++ [⟨i, q, 0⟩]) (s := head) (i := i) (fr := true) ⟨fun _ => ⟨hfr, hw, rfl, rfl⟩, fun e => (by cases e)⟩
  · exact key (L := l.live) (s := l.stream) (fr := false) ⟨fun e => (by cases e), fun _ => ⟨hfr, rfl, rfl, rfl⟩⟩

/-- A log that the call has made, since w, on a disk of its own. -/
structure Lp (w W : World) (gl : Nat) (h : Zn) (l : Wl) : Prop where
  dp : Dp w W h l.D
  lg : Lg W gl h l
  gn : w.heap.size ≤ gl
  ok : l.Ok
section
variable {w W W' : World} {gl : Nat} {h h' : Zn} {l : Wl} {D : Dsk}
theorem Lp.later (p : Lp w W gl h l) (hb : Below W.heap.size W W') : Lp w W' gl h l := ⟨p.dp.later hb, p.lg.later hb, p.gn, p.ok⟩
theorem Lp.lb (p : Lp w W gl h l) : ∃ lv sv, Lb W gl h.g l.a l.n l.size lv sv l.last l.synced ∧ Rg3 W lv l.live := by
  obtain ⟨lv, sv, g⟩ := p.lg
  exact ⟨lv, sv, g.lb, g.live⟩
theorem lopen_lp (d : Dp w W h D) (hok : D.Ok) {a : Int} {n size frm : Nat} (hn2 : 2 ≤ n) (hn : n ≤ 64) (hs1 : 1 ≤ size) (hs : size ≤ 64) (h0 : 0 ≤ a) (h1 : a + (n : Int) * size ≤ 65536) (hf : frm < U64) (hp : D.pend.length ≤ 800000) {pg : Nat} (hpg : h.g = pg) :
    Calls Tryd.prog 7 #[.pointer (some ⟨pg, 0, none⟩), .int .i64 a, .int .i64 (n : Int), .int .i64 (size : Int), .int .u64 (frm : Int)] W fun e W' => ∃ gl A k c h', e = .returned (.tuple #[.pointer (some ⟨gl, 0, none⟩), .slice A k c, .int .i64 0]) ∧
      Lp w W' gl h' (wOpen D a n size frm).1 ∧ h'.g = pg ∧ W'.ownsRow W.heap.size 41 2 (.slice A k c) (wOpen D a n size frm).2.length (rcs (wOpen D a n size frm).2) ∧ Stp h W h' W' := by
  subst hpg
  refine (lgopen_any h D a n size frm W d.dk hok hn2 hn hs1 hs h0 h1 hf hp).mono ?_
  rintro e W' ⟨gl, lv', sv', A, k, c, h', he, h2, h3, h4, h5, h6, h7, h8⟩
  refine ⟨gl, A, k, c, h', he, ⟨d.stp h8 h2, ⟨lv', sv', h2, ?_, h4, by rw [h5]; exact (Sl.nil : Bs _ _ _ [])⟩, Nat.le_trans d.below.size h6, wOpen_Ok hok hn2 hn hs1 hs h0 h1 hf⟩, h8.g, h7, h8⟩
  rw [h8.g]
  exact h3
theorem lappend_lp (p : Lp w W gl h l) (hb : BitsOk w) {t : List UInt8} (ht : t.length ≤ 1099511627776) (hp : l.D.pend.length ≤ 800000) {pg : Nat} (hpg : h.g = pg) :
    Calls Tryd.prog 12 #[.pointer (some ⟨gl, 0, none⟩), .string (st t)] W fun e W' => e = .returned (.tuple #[.int .u64 ((wAppend l t).2.1 : Int), .int .i64 ((wAppend l t).2.2 : Int)]) ∧ ∃ h', Lp w W' gl h' (wAppend l t).1 ∧ h'.g = pg ∧ Mtp h gl W h' W' := by
  subst hpg
  refine (lgappend_any h l gl t W p.lg p.ok (hb.later p.dp.below) ht hp).mono ?_
  rintro e W' ⟨he, h', h2, h3⟩
  refine ⟨he, h', ⟨?_, h2, p.gn, p.ok.append t⟩, h3.g, h3⟩
  obtain ⟨_, _, g⟩ := h2
  exact p.dp.mtp p.gn h3 g.dk
theorem lsync_lp (p : Lp w W gl h l) {pg : Nat} (hpg : h.g = pg) :
    Calls Tryd.prog 15 #[.pointer (some ⟨gl, 0, none⟩)] W fun e W' => e = .returned (.tuple #[]) ∧ ∃ h', Lp w W' gl h' l.sync ∧ h'.g = pg ∧ Mtp h gl W h' W' := by
  subst hpg
  obtain ⟨lv, sv, g⟩ := p.lg
  refine (lgsync_any h l.D gl l.a l.n l.size lv sv l.last l.synced W g.dk p.ok.dok g.lb).mono ?_
  rintro e W' ⟨he, h', h2, h3, h4⟩
  exact ⟨he, h', ⟨p.dp.mtp p.gn h4 h2, ⟨lv, sv, g.sync h2 h3 h4⟩, p.gn, p.ok.sync⟩, h4.g, h4⟩
theorem llast_lp (p : Lp w W gl h l) : Calls Tryd.prog 8 #[.pointer (some ⟨gl, 0, none⟩)] W fun e W' => e = .returned (.int .u64 (l.last : Int)) ∧ W = W' := by
  obtain ⟨lv, sv, g⟩ := p.lg
  exact lglast_any gl h.g l.a l.n l.size lv sv l.last l.synced W g.lb
theorem lsynced_lp (p : Lp w W gl h l) : Calls Tryd.prog 10 #[.pointer (some ⟨gl, 0, none⟩)] W fun e W' => e = .returned (.int .u64 (l.synced : Int)) ∧ W = W' := by
  obtain ⟨lv, sv, g⟩ := p.lg
  exact lgsynced_any gl h.g l.a l.n l.size lv sv l.last l.synced W g.lb
theorem llive_lp (p : Lp w W gl h l) : Calls Tryd.prog 9 #[.pointer (some ⟨gl, 0, none⟩)] W fun e W' => e = .returned (.int .i64 (l.live.length : Int)) ∧ W = W' := by
  obtain ⟨lv, sv, g⟩ := p.lg
  exact lglive_any gl h.g l.a l.n l.size lv sv l.last l.synced l.live W g.lb g.live
end

/-! ### An orderly log from the first -/
theorem wAll_none {f : SF} {a : Int} {size : Nat} (hf : ∀ x, f x = none) : ∀ n, wAll f a size n = []
  | 0 => rfl
  | n + 1 => by
    rw [wAll_succ, wAll_none hf n, List.nil_append]
    refine wCell_none ?_
    unfold wLook
    have : wBytes f (a + (n : Int) * size) size = [] := by
      cases size with
      | zero => rfl
      | succ s => exact wBytes_none (hf _)
    rw [this]
    unfold wLookB
    rw [recGet_nil]
theorem wFree_none {D : Dsk} (hf : ∀ x, D.view x = none) (p : Int) : ∀ n, wFree D p n = D
  | 0 => rfl
  | n + 1 => by
    rw [wFree, wFree_none hf p n]
    unfold Dsk.free
    rw [hf]
    rfl
theorem wFreeAll_none {D : Dsk} (hf : ∀ x, D.view x = none) (a : Int) (size : Nat) (live : List Sg) : ∀ n, wFreeAll D a size live n = D
  | 0 => rfl
  | n + 1 => by
    rw [wFreeAll, wFreeAll_none hf a size live n]
    split
    · rfl
    · exact wFree_none hf _ _
/-- On an empty disk there is nothing. -/
theorem wOpen_none {D : Dsk} (hf : ∀ x, D.view x = none) (a : Int) (n size frm : Nat) : wOpen D a n size frm = ({ D := D.sync, a := a, n := n, size := size, live := [], stream := [], last := frm, synced := frm }, []) := by
  unfold wOpen
  rw [wAll_none hf n]
  show (Wl.sync _, _) = _
  simp only [wPick, wChain, wFreeAll_none hf, Wl.sync, Nat.max_self]
theorem Wl.Ok.start {D : Dsk} (hf : ∀ x, D.view x = none) (hok : D.Ok) {a : Int} {n size frm : Nat} (hn2 : 2 ≤ n) (hn : n ≤ 64) (hs1 : 1 ≤ size) (hs : size ≤ 64) (h0 : 0 ≤ a) (h1 : a + (n : Int) * size ≤ 65536) (hm : frm < U64) : ({ D := D.sync, a := a, n := n, size := size, live := [], stream := [], last := frm, synced := frm } : Wl).Ok := by
  have := wOpen_Ok hok hn2 hn hs1 hs h0 h1 hm
  rw [wOpen_none hf] at this
  exact this
theorem Cl.start {D : Dsk} (hf : ∀ x, D.view x = none) (a : Int) (n size : Nat) : Cl { D := D.sync, a := a, n := n, size := size, live := [], stream := [], last := 0, synced := 0 } [] :=
  ⟨rfl, trivial, rfl, by simp [endN], by simp, by simp, by simp, by simp, by simp, fun i _ _ k _ => (by rw [if_neg (by simp)]; exact hf _), fun y hy => (by have h9 : (D.view y).isSome = true := hy; rw [hf] at h9; cases h9), .inl rfl⟩
end Go.Proofs.YtojlldalhhibmaaDoor

namespace Go.Proofs.YtojlldalhhibmaaDoor
open Go Go.RowKit
set_option linter.unusedVariables false

theorem recB_small {q : Nat} {t : List UInt8} (hq : q < 128) (ht : t.length < 128) : (recB q t).length = 10 + t.length := by
  rw [recB_len, recF, List.length_append, List.length_append, varB_lo hq, varB_lo ht]
  simp only [List.length_singleton]
  omega
theorem crash_sync (D : Dsk) : D.sync.crash [] = D.sync := rfl
/-- The chapter's example, plain. -/
theorem example8 {l1 : Wl} (h1 : l1 = { D := (Dsk.new 9).sync, a := 0, n := 2, size := 1, live := [], stream := [], last := 0, synced := 0 }) :
    ∃ l2 l3, wAppend l1 [97] = (l2, 1, 0) ∧ wAppend l2 [98] = (l3, 2, 0) ∧ l3.last = 2 ∧ l2.D.pend.length ≤ 800000 ∧ (wOpen (l3.sync.D.crash []) 0 2 1 1).1.last = 2 ∧ (wOpen (l3.sync.D.crash []) 0 2 1 1).1.live.length = 1 ∧ (wOpen (l3.sync.D.crash []) 0 2 1 1).2 = [(2, [98])] := by
  have c1 : Cl l1 [] := by rw [h1]; exact Cl.start (fun _ => rfl) 0 2 1
  have ok1 : l1.Ok := by
    rw [h1]
    exact Wl.Ok.start (fun _ => rfl) (Dsk.Ok.new (by omega) (by omega)) (by omega) (by omega) (by omega) (by omega) (by omega) (by omega) (by unfold U64; omega)
  have r1 : Roomy l1 := by rw [h1]; exact ⟨by simp [Dsk.new, Dsk.sync], by simp [Dsk.new, Dsk.sync]⟩
  have hl1 : l1.last = 0 := by rw [h1]
  have hs1 : l1.stream = [] := by rw [h1]
  have hz1 : l1.size = 1 := by rw [h1]
  have hp1 : l1.D.pend.length = 0 := by rw [h1]; rfl
  have b1 : (recB 1 titleB).length = 17 := recB_small (by omega) (by decide)
  have b2 : (recB 1 [97]).length = 11 := recB_small (by omega) (by simp)
  have b3 : (recB 2 titleB).length = 17 := recB_small (by omega) (by decide)
  have b4 : (recB 2 [98]).length = 11 := recB_small (by omega) (by simp)
  rcases c1.append ok1 r1 [97] (by simp [endN]) with ⟨h2, _, _, h5, h6⟩ | ⟨h2, SB1, h3⟩
  · exfalso
    rcases h2 with h2 | h2
    · have := h5.1 h2
      rw [hl1, hz1, b1, b2] at this
      simp at this
    · have := (h6 h2).2
      rw [h1] at this
      revert this
      decide
  have ok2 := ok1.append [97]
  obtain ⟨l2, x2, hw2⟩ : ∃ l2 x, wAppend l1 [97] = (l2, x) := ⟨_, _, rfl⟩
  rw [hw2] at h2 h3 ok2
  simp only at h2 h3 ok2
  subst h2
  have hb2 : bods SB1 = [[97]] := by rw [h3.bods]; rfl
  have he2 : endN 1 SB1 = 2 := by rw [endN_eq, hb2]; rfl
  have hl2 : l2.last = 1 := by have := h3.cl.last; omega
  have hz2 : l2.size = 1 := by rw [h3.par.2.2.1, hz1]
  have hsl2 : l2.stream.length ≤ 28 := by have := h3.slen; rw [hs1, hl1, b1, b2] at this; simpa using this
  have hSB1 : SB1.length ≤ 1 := by have := h3.len; simpa using this
  rcases h3.cl.append ok2 h3.room [98] (by omega) with ⟨h4, _, _, h5, h6⟩ | ⟨h4, SB2, h7⟩
  · exfalso
    rcases h4 with h4 | h4
    · have := h5.1 h4
      rw [hl2, hz2, b3, b4] at this
      simp at this
    · have := (h6 h4).1
      rw [hl2, hz2, b4] at this
      rcases this with h | h
      · exact h3.str h
      · omega
  obtain ⟨l3, x3, hw3⟩ : ∃ l3 x, wAppend l2 [98] = (l3, x) := ⟨_, _, rfl⟩
  rw [hw3] at h4 h7
  simp only at h4 h7
  subst h4
  have hb3 : bods SB2 = [[97], [98]] := by rw [h7.bods, hb2]; rfl
  have he3 : endN 1 SB2 = 3 := by rw [endN_eq, hb3]; rfl
  have hl3 : l3.last = 2 := by have := h7.cl.last; omega
  have hSB2 : SB2.length = SB1.length := h7.same ⟨h3.str, by rw [hl2, hz2, b4]; omega⟩
  obtain ⟨SA, SC, e1, e2, e3, e4, e5, e6⟩ := wOpen_cl h7.cl.sync (k := 1) (by show 1 ≤ l3.last; omega)
  have ha3 : l3.sync.a = 0 := by show l3.a = 0; rw [h7.par.1, h3.par.1, h1]
  have hn3 : l3.sync.n = 2 := by show l3.n = 2; rw [h7.par.2.1, h3.par.2.1, h1]
  have hz3 : l3.sync.size = 1 := by show l3.size = 1; rw [h7.par.2.2.1, hz2]
  rw [ha3, hn3, hz3] at e3 e4 e5 e6
  have hcr : l3.sync.D.crash [] = l3.sync.D := crash_sync l3.D
  refine ⟨l2, l3, by rw [hw2]; rfl, by rw [hw3, he2], hl3, ?_, ?_, ?_, ?_⟩
  · have := h3.pend; rw [hp1, hz1] at this; omega
  · rw [hcr, e4]; exact hl3
  · rw [hcr, e3, List.length_map]
    have hne : SB2 ≠ [] := fun h => by rw [h] at hb3; simp [bods] at hb3
    have h8 := pos_len (e2 hne)
    have h9 := congrArg List.length e1
    rw [List.length_append] at h9
    omega
  · rw [hcr, e6, hb3]
    simp [numbered, U64]
end Go.Proofs.YtojlldalhhibmaaDoor

namespace Go.Proofs.YtojlldalhhibmaaDoor
open Go Go.RowKit
set_option linter.unusedVariables false

theorem Lp.dpsync {w W : World} {gl : Nat} {h : Zn} {l : Wl} (p : Lp w W gl h l) : Dp w W h l.D := p.dp
set_option maxHeartbeats 4000000 in
set_option maxRecDepth 100000 in
theorem awake8_any (w : World) (hb : BitsOk w) : Calls Tryd.prog 6 #[] w fun e w' => e = .returned (.bool true) ∧ Below w.heap.size w w' := by
  have HB := Lib.hid hb
  have OK0 : Hid ((Dsk.new 9).Ok) := Dsk.Ok.new (by omega) (by omega)
  have u64 : Hid (3 < U64) := by rw [Hid]; unfold U64; omega
  have hex := example8 rfl
  obtain ⟨l2, l3, a2, a3, hl3, hp2, o1, o2, o3⟩ := hex
  have W0 := Lib.hid (wOpen_none (D := Dsk.new 9) (fun _ => rfl) 0 2 1 0)
  have A2 := Lib.hid a2
  have A3 := Lib.hid a3
  have L3 := Lib.hid hl3
  have P2 := Lib.hid hp2
  have O1 := Lib.hid o1
  have O2 := Lib.hid o2
  have O3 := Lib.hid o3
  clear hb a2 a3 hl3 hp2 o1 o2 o3
  go_enter Tryd.func6, Tryd.ntmps6
  go_wp2_with fail
  refine (dnew_any 9 w (by omega) (by omega)).mono ?_
  rintro e w1 ⟨h, rfl, hd, hnew, hbl⟩
  have D1 : Hid (Dp w w1 h (Dsk.new 9)) := ⟨hd, hnew, hbl⟩
  clear hd hnew hbl
  go_wp2_with fail
  refine (lopen_lp (a := 0) (n := 2) (size := 1) (frm := 0) D1.out OK0.out (by omega) (by omega) (by omega) (by omega) (by omega) (by omega) (by have := u64.out; omega) (by show ([] : List Pnd).length ≤ _; simp) rfl).mono ?_
  rintro e w2 ⟨gl, A, k, c, h2, rfl, hp, hg2, ho, -⟩
  rw [W0.out] at hp ho
  have P1 := Lib.hid hp
  have G2 := Lib.hid hg2
  obtain rfl : k = 0 := own_len ho
  clear hp hg2 ho D1
  go_wp2_with fail
  refine (lappend_lp (t := [97]) P1.out HB.out (by simp) (by show ([] : List Pnd).length ≤ _; simp) G2.out).mono ?_
  rintro e w3 ⟨rfl, h3, hp, hg3, -⟩
  rw [A2.out] at hp ⊢
  have PP2 := Lib.hid hp
  have G3 := Lib.hid hg3
  clear hp hg3 P1 G2
  go_wp2_with fail
  refine (lappend_lp (t := [98]) PP2.out HB.out (by simp) P2.out G3.out).mono ?_
  rintro e w4 ⟨rfl, h4, hp, hg4, -⟩
  rw [A3.out] at hp ⊢
  have PP3 := Lib.hid hp
  have G4 := Lib.hid hg4
  clear hp hg4 PP2 G3
  go_wp2_with fail
  refine (lsync_lp PP3.out G4.out).mono ?_
  rintro e w5 ⟨rfl, h5, hp, hg5, -⟩
  have PP5 := Lib.hid hp
  have G5 := Lib.hid hg5
  clear hp hg5 PP3 G4
  go_wp2_with fail
  refine (dcrash_dp (S := fun _ => True) (l := []) PP5.out.dp PP5.out.ok.dok Sl.nil (by simp) (by simp) (by show ([] : List Pnd).length ≤ _; simp) G5.out).mono ?_
  rintro e w6 ⟨rfl, h6, hd, hg6, hs⟩
  obtain ⟨lv, sv, hlg⟩ := PP5.out.lg
  have LB6 := Lib.hid (hs.lb hlg.dk hlg.lb)
  have D6 := Lib.hid hd
  have G6 := Lib.hid hg6
  have OK6 : Hid ((l3.sync.D.crash []).Ok) := by rw [show l3.sync.D.crash [] = l3.sync.D from crash_sync l3.D]; exact PP5.out.ok.dok
  clear hd hg6 hs hlg PP5 G5
  go_wp2_with fail
  refine (lopen_lp (a := 0) (n := 2) (size := 1) (frm := 1) D6.out OK6.out (by omega) (by omega) (by omega) (by omega) (by omega) (by omega) (by have := u64.out; omega) (by show ([] : List Pnd).length ≤ _; simp) G6.out).mono ?_
  rintro e w7 ⟨gm, A7, k7, c7, h7, rfl, hp, hg7, ho, hs⟩
  have P7 := Lib.hid hp
  have LB7 := Lib.hid (hs.lb D6.out.dk LB6.out)
  rw [O3.out] at ho
  obtain rfl : k7 = 1 := own_len ho
  have O7 := Lib.hid ho
  have HS : Hid (l3.sync.synced = 2) := L3.out
  clear hp hg7 ho hs D6 LB6
  go_wp2_with fail
  refine (lgsynced_any gl _ _ _ _ _ _ _ _ w7 LB7.out).mono ?_
  rintro e w8 ⟨rfl, rfl⟩
  rw [HS.out]
  go_wp2_with fail
  have qa := (Below.refl w7.heap.size w7).alloc (Nat.le_refl _) (.cells #[.int .u64 2, .string (st [98])] 41)
  have PA := Lib.hid (P7.out.later qa)
  refine (rsame_any _ _ _ _ [(2, [98])] [(2, [98])] _ (Sl.of_own (by omega) (World.ownsRow.alloc O7.out _)) (Sl.newrec (S := fun _ => True) (g := w7.heap.size) w7 (2, [98]) rfl trivial) ).mono ?_
  rintro e w9 ⟨rfl, nn, rfl⟩
  have P9 := Lib.hid (PA.out.later (below_drewN (Below.refl _ _) nn))
  clear qa PA P7
  go_wp2_with fail
  refine (llast_lp P9.out).mono ?_
  rintro e w10 ⟨rfl, rfl⟩
  rw [O1.out]
  go_wp2_with fail
  refine (llive_lp P9.out).mono ?_
  rintro e w10 ⟨rfl, rfl⟩
  rw [O2.out]
  go_wp2_with fail
  go_ret
  exact ⟨rfl, P9.out.dp.below⟩
end Go.Proofs.YtojlldalhhibmaaDoor

namespace Go.Proofs.YtojlldalhhibmaaDoor
open Go Go.RowKit
set_option linter.unusedVariables false

def plOk (a n size : Int) : Prop := 2 ≤ n ∧ n ≤ 64 ∧ 1 ≤ size ∧ size ≤ 64 ∧ 0 ≤ a ∧ a ≤ 65536 - n * size
theorem mul_in {n size : Int} (h1 : 2 ≤ n) (h2 : n ≤ 64) (h3 : 1 ≤ size) (h4 : size ≤ 64) : 0 ≤ n * size ∧ n * size ≤ 4096 := by
  obtain ⟨n, rfl⟩ := Int.eq_ofNat_of_zero_le (show 0 ≤ n by omega)
  obtain ⟨size, rfl⟩ := Int.eq_ofNat_of_zero_le (show 0 ≤ size by omega)
  have := Nat.mul_le_mul (show n ≤ 64 by omega) (show size ≤ 64 by omega)
  have e : ((n * size : Nat) : Int) = (n : Int) * size := by push_cast; rfl
  omega
theorem plBad {a n size : Int} (h : ¬ plOk a n size) : n < 2 ∨ (¬ n < 2 ∧ 64 < n) ∨ (¬ n < 2 ∧ ¬ 64 < n ∧ size < 1) ∨ (¬ n < 2 ∧ ¬ 64 < n ∧ ¬ size < 1 ∧ 64 < size) ∨ (¬ n < 2 ∧ ¬ 64 < n ∧ ¬ size < 1 ∧ ¬ 64 < size ∧ a < 0) ∨
    (¬ n < 2 ∧ ¬ 64 < n ∧ ¬ size < 1 ∧ ¬ 64 < size ∧ ¬ a < 0 ∧ 65536 - n * size < a) := by
  unfold plOk at h
  by_cases h1 : n < 2
  · exact .inl h1
  by_cases h2 : 64 < n
  · exact .inr (.inl ⟨h1, h2⟩)
  by_cases h3 : size < 1
  · exact .inr (.inr (.inl ⟨h1, h2, h3⟩))
  by_cases h4 : 64 < size
  · exact .inr (.inr (.inr (.inl ⟨h1, h2, h3, h4⟩)))
  by_cases h5 : a < 0
  · exact .inr (.inr (.inr (.inr (.inl ⟨h1, h2, h3, h4, h5⟩))))
  · exact .inr (.inr (.inr (.inr (.inr ⟨h1, h2, h3, h4, h5, by omega⟩))))
set_option maxHeartbeats 4000000 in
set_option maxRecDepth 100000 in
theorem lgopen_bad (dv : Value) (a n size : Int) (frm : Nat) (w : World) (h : ¬ plOk a n size) :
    Calls Tryd.prog 7 #[dv, .int .i64 a, .int .i64 n, .int .i64 size, .int .u64 (frm : Int)] w fun e w' => e = .returned (.tuple #[.pointer none, .slice none 0 0, .int .i64 80]) ∧ w = w' := by
  rcases plBad h with h1 | ⟨h1, h2⟩ | ⟨h1, h2, h3⟩ | ⟨h1, h2, h3, h4⟩ | ⟨h1, h2, h3, h4, h5⟩ | ⟨h1, h2, h3, h4, h5, h6⟩
  all_goals clear h
  case inr.inr.inr.inr.inr =>
    have hm := mul_in (show 2 ≤ n by omega) (show n ≤ 64 by omega) (show 1 ≤ size by omega) (show size ≤ 64 by omega)
    have hw1 : IntKind.i64.wrap (n * size) = n * size := i64_in (by omega) (by omega)
    have hw2 : IntKind.i64.wrap (65536 - n * size) = 65536 - n * size := i64_in (by omega) (by omega)
    go_enter Tryd.func7, Tryd.ntmps7
    go_wp2_with fail
    go_ret3
    exact ⟨rfl, rfl⟩
  all_goals
    go_enter Tryd.func7, Tryd.ntmps7
    go_wp2_with fail
    go_ret3
    exact ⟨rfl, rfl⟩
set_option maxHeartbeats 8000000 in
set_option maxRecDepth 100000 in
theorem law_WalPlaces (pd pa ps pk sec : Int) (frm : Nat) (w : World) (hb : BitsOk w) (b0 : InI pd) (b1 : InI pa) (b2 : InI ps) (b3 : InI pk) (b4 : InI sec) (b5 : frm < U64) :
    Calls Tryd.prog 3 #[.agg #[.int .i64 pd, .int .i64 pa, .int .i64 ps, .int .i64 pk], .int .i64 sec, .int .u64 (frm : Int)] w fun e w' => e = .returned (.bool true) ∧ Below w.heap.size w w' := by
  have HB := Lib.hid hb
  have HF := Lib.hid b5
  have hq0 := Blk.new w 23 #[.int .i64 pd, .int .i64 pa, .int .i64 ps, .int .i64 pk]
  have c1 : (w.alloc (.cells #[.int .i64 pd, .int .i64 pa, .int .i64 ps, .int .i64 pk] 23)).cell? ⟨w.heap.size, 1, none⟩ = some (.int .i64 pa) := hq0.cell 1
  have c2 : (w.alloc (.cells #[.int .i64 pd, .int .i64 pa, .int .i64 ps, .int .i64 pk] 23)).cell? ⟨w.heap.size, 2, none⟩ = some (.int .i64 ps) := hq0.cell 2
  have QA := Lib.hid ((Below.refl w.heap.size w).alloc (Nat.le_refl _) (.cells #[.int .i64 pd, .int .i64 pa, .int .i64 ps, .int .i64 pk] 23))
  have OK0 : Hid ((Dsk.new 100).Ok) := Dsk.Ok.new (by omega) (by omega)
  clear hb b5 hq0
  go_enter Tryd.func3, Tryd.ntmps3
  go_wp2_with fail
  generalize w.alloc _ = wa at *
  refine wp_region_grow_lit (by kernel_rfl) (by kernel_rfl) ?_
  apply Exists.intro
  apply And.intro
  · repeat (first
      | (apply wpGrow_skip rfl
         intro K hK
         go_simp
         refine hK _ ?_
         clear hK K)
      | (apply wpGrow_is rfl
         · intro wg hwg _
           have d1 := cell_later hwg c1
           have d2 := cell_later hwg c2
           unfold grows
           go_simp
           first
             | exact grows_value _ _
         intro K hK
         go_simp
         refine hK _ ?_
         clear hK K))
    refine wpGrow_end (fun wg hwg _ => ?_)
    have Q1 := Lib.hid (QA.out.trans (hwg.mono QA.out.size))
    clear c1 c2 QA
    go_wp2_with fail
    refine (dnew_any 100 wg (by omega) (by omega)).mono ?_
    rintro e w1 ⟨h, rfl, hd, hnew, hbl⟩
    have D1 : Hid (Dp wg w1 h (Dsk.new 100)) := ⟨hd, hnew, hbl⟩
    have B1 := Lib.hid (Q1.out.trans (hbl.mono Q1.out.size))
    clear hd hnew hbl
    go_wp2_with fail
    refine (awake8_any w1 (HB.out.later B1.out)).mono ?_
    rintro e w2 ⟨rfl, hb2⟩
    have D2 := Lib.hid (D1.out.later hb2)
    have B2 := Lib.hid (B1.out.trans (hb2.mono B1.out.size))
    clear hb2 D1 B1
    by_cases hok : plOk pa ps sec
    · obtain ⟨h1, h2, h3, h4, h5, h6⟩ := hok
      have hm := mul_in h1 h2 h3 h4
      have hw1 : IntKind.i64.wrap (ps * sec) = ps * sec := i64_in (by omega) (by omega)
      have hw2 : IntKind.i64.wrap (65536 - ps * sec) = 65536 - ps * sec := i64_in (by omega) (by omega)
      obtain ⟨n, hn⟩ := Int.eq_ofNat_of_zero_le (show 0 ≤ ps by omega)
      obtain ⟨size, hsz⟩ := Int.eq_ofNat_of_zero_le (show 0 ≤ sec by omega)
      subst hn hsz
      go_wp2_with fail
      refine (lopen_lp (n := n) (size := size) (frm := frm) D2.out OK0.out (by omega) (by omega) (by omega) (by omega) h5 (by omega) HF.out (by show ([] : List Pnd).length ≤ _; simp) rfl).mono ?_
      rintro e w3 ⟨gl, A, k, c, h7, rfl, hp, hg7, ho, hs⟩
      rw [wOpen_none (D := Dsk.new 100) (fun _ => rfl)] at hp ho
      have P3 := Lib.hid hp
      obtain rfl : k = 0 := own_len ho
      have G7 := Lib.hid hg7
      have Q3 := Lib.hid (Q1.out.trans (hp.dp.below.mono Q1.out.size))
      clear hp hg7 ho hs
      go_wp2_with (first
        | (go_at_call 8; refine (llast_lp P3.out).mono ?_; rintro e w9 ⟨rfl, rfl⟩)
        | (go_at_call 9; refine (llive_lp P3.out).mono ?_; rintro e w9 ⟨rfl, rfl⟩)
        | (go_at_call 10; refine (lsynced_lp P3.out).mono ?_; rintro e w9 ⟨rfl, rfl⟩)
        | (go_at_call 11; rw [← G7.out]; refine (dused_any h7 _ w3 P3.out.dp.dk).mono ?_; rintro e w9 ⟨rfl, rfl⟩)
        | fail)
      go_ret
      exact ⟨rfl, Q3.out⟩
    · go_wp2_with fail
      refine (lgopen_bad _ pa ps sec frm w2 hok).mono ?_
      rintro e w3 ⟨rfl, rfl⟩
      have hpb := plBad hok
      clear hok D2
      rcases hpb with h1 | ⟨h1, h2⟩ | ⟨h1, h2, h3⟩ | ⟨h1, h2, h3, h4⟩ | ⟨h1, h2, h3, h4, h5⟩ | ⟨h1, h2, h3, h4, h5, h6⟩
      case inr.inr.inr.inr.inr =>
        have hm := mul_in (show 2 ≤ ps by omega) (show ps ≤ 64 by omega) (show 1 ≤ sec by omega) (show sec ≤ 64 by omega)
        have hw1 : IntKind.i64.wrap (ps * sec) = ps * sec := i64_in (by omega) (by omega)
        have hw2 : IntKind.i64.wrap (65536 - ps * sec) = 65536 - ps * sec := i64_in (by omega) (by omega)
        have h7 : ¬ pa ≤ 65536 - ps * sec := by omega
        have h8 : decide (pa ≤ 65536 - ps * sec) = false := by simp; omega
        clear h6
        go_wp2_with fail
        go_ret
        exact ⟨rfl, B2.out⟩
      all_goals
        go_wp2_with fail
        go_ret
        exact ⟨rfl, B2.out⟩
  · apply And.intro
    · repeat (first | exact trivial | (refine ⟨Stays.is _, ?_⟩) | (refine ⟨Stays.bs _, ?_⟩) | (refine ⟨Stays.pg _ _ _, ?_⟩))
    · rfl
end Go.Proofs.YtojlldalhhibmaaDoor

namespace Go.Proofs.YtojlldalhhibmaaDoor
open Go Go.ChangeShapes Go.WideShapes Go.RowKit
set_option linter.unusedVariables false
section
variable {H : Type} {enc : TypeId × Value → H} {P : Program}

theorem trodAll_later {w w' : World} {base : Nat} {sp : Nat → Bool} {hd : Bool} : ∀ {ts : List TypeId} {vs : List Value} {ds : List (DataW H)} {ps : List MemPlace}, DataW.TrodAll enc P w base sp hd ts vs ds ps → (∀ p ∈ ps, w.sameAt w' p) → DataW.TrodAll enc P w' base sp hd ts vs ds ps
  | [], [], [], _, h, _ => h
  | _ :: _, _ :: _, _ :: _, _, ⟨p, q, ⟨n, h1⟩, h2, e⟩, hs => ⟨p, q, ⟨n, DataW.trod_carry n _ _ _ h1 (fun x hx => hs x (by rw [e]; exact List.mem_append_left _ hx))⟩, trodAll_later h2 (fun x hx => hs x (by rw [e]; exact List.mem_append_right _ hx)), e⟩

/-- The post of a law: it returned what the specification says; memory has only grown. -/
theorem law_post {f : Func} {s : ChangeSpec} {W W' : World} {args : Array Value} {v : Value} {ds gs : List (DataW H)} {before : List MemPlace} (K : Kids P (· < P.types.size)) (hz : ∀ t e, t < P.types.size → P.underlying t = some (.slice e) → 0 < P.cellsOf e)
    (hT : ∀ t ∈ f.params.toList, t < P.types.size) (hvs : s.vars = []) (hW : DataW.Whole enc P f.params.toList s.vars false W args.toList ds gs before) (hb : Below W.heap.size W W')
    (hargs : (s.fn H (ds ++ gs)).args = ds) (hvars : (s.fn H (ds ++ gs)).vars = [])
    (hres : DataW.TrodAll enc P W' W.heap.size (fun _ => false) false f.resultTypes.toList (v.resultList f.resultTypes.size) (s.fn H (ds ++ gs)).results []) :
    s.post enc P f false true false false W args v W' := by
  have hlt : ∀ p ∈ before, p.block < W.heap.size := fun p hp => hW.lt p hp
  have hW0 := hW
  obtain ⟨p, q, hA, hV, hpq, hfz, hnd⟩ := hW
  have hold : ∀ x ∈ p, (fun b => decide (b < W.heap.size)) x.block = true := fun x hx => by simpa using hlt x (by rw [hpq]; exact List.mem_append_left _ hx)
  have hA1 := DataW.TrodAll.respare K hz (spare' := fun b => decide (b < W.heap.size)) hT hA hold
  have hA2 := trodAll_later (w' := W') hA1 (fun x hx => hb.same (hlt x (by rw [hpq]; exact List.mem_append_left _ hx)))
  refine ⟨ds, gs, before, [], p, [], hW0, hres, by rw [hargs]; exact hA2, ?_, hb.frame _, fun h => by cases h⟩
  rw [hvs, hvars]
  exact rfl
end
end Go.Proofs.YtojlldalhhibmaaDoor

namespace Go.Proofs.YtojlldalhhibmaaDoor
open Go.ChangeShapes Go.WideShapes Go.ChangeAt Go.RowKit
open Go.ChangeMaps (open_string shut_string)
set_option linter.unusedVariables false

theorem own : ownKnob Tryd.prog.godebug = none := by kernel_rfl
theorem laidOut : laidOutB Tryd.prog = true := by kernel_rfl
/-- The reading stays among the rows of the table of types. -/
theorem kids : Kids Tryd.prog (· < Tryd.prog.types.size) := kids_rows laidOut (by kernel_rfl)
theorem full : ∀ t e, t < Tryd.prog.types.size → Tryd.prog.underlying t = some (.slice e) → 0 < Tryd.prog.cellsOf e := slices_full_of _ (by kernel_rfl)
theorem gTab : Tryd.prog.globalNamed "lapstone/num.bits" = some 0 := by kernel_rfl
theorem gTabType : (Tryd.prog.globals[0]?).map (·.type) = some 112 := by kernel_rfl
theorem cellsT : Tryd.prog.cellsOf 112 = 9 := by kernel_rfl
theorem cellsE : Tryd.prog.cellsOf 111 = 1 := by kernel_rfl

theorem bytes_len (s : ByteArray) : s.data.toList.length = s.size := rfl
theorem u64_nat {x : Int} (h : (Lit.int .u64 x).wf = true) : ∃ y : Nat, x = (y : Int) ∧ y < U64 := by
  simp only [Lit.wf, Bool.and_eq_true, decide_eq_true_eq] at h
  have h0 : IntKind.u64.min = 0 := rfl
  have h1 : IntKind.u64.max = 18446744073709551615 := rfl
  refine ⟨x.toNat, by omega, ?_⟩
  unfold U64
  omega
theorem u32_nat {x : Int} (h : (Lit.int .u32 x).wf = true) : ∃ y : Nat, x = (y : Int) ∧ y < 4294967296 := by
  simp only [Lit.wf, Bool.and_eq_true, decide_eq_true_eq] at h
  have h0 : IntKind.u32.min = 0 := rfl
  have h1 : IntKind.u32.max = 4294967295 := rfl
  exact ⟨x.toNat, by omega, by omega⟩
theorem u16_nat {x : Int} (h : (Lit.int .u16 x).wf = true) : ∃ y : Nat, x = (y : Int) ∧ y < 65536 := by
  simp only [Lit.wf, Bool.and_eq_true, decide_eq_true_eq] at h
  have h0 : IntKind.u16.min = 0 := rfl
  have h1 : IntKind.u16.max = 65535 := rfl
  exact ⟨x.toNat, by omega, by omega⟩
theorem u8_nat {x : Int} (h : (Lit.int .u8 x).wf = true) : ∃ y : Nat, x = (y : Int) ∧ y < 256 := by
  simp only [Lit.wf, Bool.and_eq_true, decide_eq_true_eq] at h
  have h0 : IntKind.u8.min = 0 := rfl
  have h1 : IntKind.u8.max = 255 := rfl
  exact ⟨x.toNat, by omega, by omega⟩
theorem int_bd {x : Int} (h : (Lit.int .i64 x).wf = true) : -9223372036854775808 ≤ x ∧ x ≤ 9223372036854775807 := by
  simp only [Lit.wf, Bool.and_eq_true, decide_eq_true_eq] at h
  exact h
theorem str_len {s : ByteArray} (h : s.size ≤ maxLen) : s.data.toList.length ≤ 9223372036854775807 := by
  rw [bytes_len]
  simp only [maxLen] at h
  omega

/-- WHAT THE ROWS' LIST GIVES: the table's cells hold its nine numbers. -/
theorem table {W : World} (h : laidMetH Tryd.prog [("lapstone/num.bits", Rows.laid_lapstone_num_bits)] W) : Lib.TabIs Tryd.prog W "lapstone/num.bits" .u64 [0, 8, 16, 24, 32, 40, 48, 56, 64] :=
  Lib.tabIs_of_head (rest := []) gTab gTabType Tryd.underlying112 Tryd.underlying111 cellsE cellsT h
theorem bitsOk {W : World} (h : laidMetH Tryd.prog [("lapstone/num.bits", Rows.laid_lapstone_num_bits)] W) : BitsOk W := by
  intro i hi
  have hc := (table h).cell gTab i hi
  rw [hc]
  match i, hi with
  | 0, _ | 1, _ | 2, _ | 3, _ | 4, _ | 5, _ | 6, _ | 7, _ | 8, _ => rfl

/-- A WORLD FOR THE WITNESS: the settled one, the table (block 0) holding what its initialiser lays. -/
noncomputable def laidWorld (os : Os) : World :=
  { World.holding Tryd.prog os ⟨#[], #[], []⟩ with heap := (World.holding Tryd.prog os ⟨#[], #[], []⟩).heap.modify 0 fun
      | .cells _ t frozen => .cells #[.int .u64 0, .int .u64 8, .int .u64 16, .int .u64 24, .int .u64 32, .int .u64 40, .int .u64 48, .int .u64 56, .int .u64 64] t frozen
      | o => o }
end Go.Proofs.YtojlldalhhibmaaDoor
