/- What the proof of WalPlays needs, part 16. -/
import Derived.Test.YtojlldalhhibmaaGreatDoorWalPlaysJ5
import Derived.Test.YtojlldalhhibmaaGreatDoorWalPlaysJ7
import Derived.Test.YtojlldalhhibmaaGreatDoorWalPlaysJ8
import Derived.Test.YtojlldalhhibmaaGreatDoorWalPlaysJ12
import Derived.Test.YtojlldalhhibmaaGreatDoorWalPlaysJ13
import Derived.Test.YtojlldalhhibmaaGreatDoorWalPlaysJ15

namespace Go.Proofs.YtojlldalhhibmaaGreatDoor
open Go Go.RowKit
set_option linter.unusedVariables false

theorem recB_small {q : Nat} {t : List UInt8} (hq : q < 128) (ht : t.length < 128) : (recB q t).length = 10 + t.length := by
  rw [recB_len, recF, List.length_append, List.length_append, varB_lo hq, varB_lo ht]
  simp only [List.length_singleton]
  omega
theorem crash_sync (D : Dsk) : D.sync.crash [] = D.sync := rfl
/-- The chapter's example, plain. -/
theorem example8 {l1 : Wl} (h1 : l1 = { D := (Dsk.new 9).sync, a := 0, n := 2, size := 1, live := [], stream := [], last := 0, synced := 0 }) :
    ∃ l2 l3, wAppend l1 [97] = (l2, 1, 0) ∧ wAppend l2 [98] = (l3, 2, 0) ∧ l3.last = 2 ∧ l2.D.pend.length ≤ 800000 ∧ (wOpen (l3.sync.D.crash []) 0 2 1 1).1.last = 2 ∧ (wOpen (l3.sync.D.crash []) 0 2 1 1).1.live.length = 1 ∧ (wOpen (l3.sync.D.crash []) 0 2 1 1).2 = [(2, [98])] := by
  have c1 : Cl l1 [] := by rw [h1]; exact Cl.start (fun _ => rfl) 0 2 1
  have ok1 : l1.Ok := by
    rw [h1]
    exact Wl.Ok.start (fun _ => rfl) (Dsk.Ok.new (by omega) (by omega)) (by omega) (by omega) (by omega) (by omega) (by omega) (by omega) (by unfold U64; omega)
  have r1 : Roomy l1 := by rw [h1]; exact ⟨by simp [Dsk.new, Dsk.sync], by simp [Dsk.new, Dsk.sync]⟩
  have hl1 : l1.last = 0 := by rw [h1]
  have hs1 : l1.stream = [] := by rw [h1]
  have hz1 : l1.size = 1 := by rw [h1]
  have hp1 : l1.D.pend.length = 0 := by rw [h1]; rfl
  have b1 : (recB 1 titleB).length = 17 := recB_small (by omega) (by decide)
  have b2 : (recB 1 [97]).length = 11 := recB_small (by omega) (by simp)
  have b3 : (recB 2 titleB).length = 17 := recB_small (by omega) (by decide)
  have b4 : (recB 2 [98]).length = 11 := recB_small (by omega) (by simp)
  rcases c1.append ok1 r1 [97] (by simp [endN]) with ⟨h2, _, _, h5, h6⟩ | ⟨h2, SB1, h3⟩
  · exfalso
    rcases h2 with h2 | h2
    · have := h5.1 h2
      rw [hl1, hz1, b1, b2] at this
      simp at this
    · have := (h6 h2).2
      rw [h1] at this
      revert this
      decide
  have ok2 := ok1.append [97]
  obtain ⟨l2, x2, hw2⟩ : ∃ l2 x, wAppend l1 [97] = (l2, x) := ⟨_, _, rfl⟩
  rw [hw2] at h2 h3 ok2
  simp only at h2 h3 ok2
  subst h2
  have hb2 : bods SB1 = [[97]] := by rw [h3.bods]; rfl
  have he2 : endN 1 SB1 = 2 := by rw [endN_eq, hb2]; rfl
  have hl2 : l2.last = 1 := by have := h3.cl.last; omega
  have hz2 : l2.size = 1 := by rw [h3.par.2.2.1, hz1]
  have hsl2 : l2.stream.length ≤ 28 := by have := h3.slen; rw [hs1, hl1, b1, b2] at this; simpa using this
  have hSB1 : SB1.length ≤ 1 := by have := h3.len; simpa using this
  rcases h3.cl.append ok2 h3.room [98] (by omega) with ⟨h4, _, _, h5, h6⟩ | ⟨h4, SB2, h7⟩
  · exfalso
    rcases h4 with h4 | h4
    · have := h5.1 h4
      rw [hl2, hz2, b3, b4] at this
      simp at this
    · have := (h6 h4).1
      rw [hl2, hz2, b4] at this
      rcases this with h | h
      · exact h3.str h
      · omega
  obtain ⟨l3, x3, hw3⟩ : ∃ l3 x, wAppend l2 [98] = (l3, x) := ⟨_, _, rfl⟩
  rw [hw3] at h4 h7
  simp only at h4 h7
  subst h4
  have hb3 : bods SB2 = [[97], [98]] := by rw [h7.bods, hb2]; rfl
  have he3 : endN 1 SB2 = 3 := by rw [endN_eq, hb3]; rfl
  have hl3 : l3.last = 2 := by have := h7.cl.last; omega
  have hSB2 : SB2.length = SB1.length := h7.same ⟨h3.str, by rw [hl2, hz2, b4]; omega⟩
  obtain ⟨SA, SC, e1, e2, e3, e4, e5, e6⟩ := wOpen_cl h7.cl.sync (k := 1) (by show 1 ≤ l3.last; omega)
  have ha3 : l3.sync.a = 0 := by show l3.a = 0; rw [h7.par.1, h3.par.1, h1]
  have hn3 : l3.sync.n = 2 := by show l3.n = 2; rw [h7.par.2.1, h3.par.2.1, h1]
  have hz3 : l3.sync.size = 1 := by show l3.size = 1; rw [h7.par.2.2.1, hz2]
  rw [ha3, hn3, hz3] at e3 e4 e5 e6
  have hcr : l3.sync.D.crash [] = l3.sync.D := crash_sync l3.D
  refine ⟨l2, l3, by rw [hw2]; rfl, by rw [hw3, he2], hl3, ?_, ?_, ?_, ?_⟩
  · have := h3.pend; rw [hp1, hz1] at this; omega
  · rw [hcr, e4]; exact hl3
  · rw [hcr, e3, List.length_map]
    have hne : SB2 ≠ [] := fun h => by rw [h] at hb3; simp [bods] at hb3
    have h8 := pos_len (e2 hne)
    have h9 := congrArg List.length e1
    rw [List.length_append] at h9
    omega
  · rw [hcr, e6, hb3]
    simp [numbered, U64]
end Go.Proofs.YtojlldalhhibmaaGreatDoor

namespace Go.Proofs.YtojlldalhhibmaaGreatDoor
open Go Go.RowKit
set_option linter.unusedVariables false

theorem Lp.dpsync {w W : World} {gl : Nat} {h : Zn} {l : Wl} (p : Lp w W gl h l) : Dp w W h l.D := p.dp
set_option maxHeartbeats 4000000 in
set_option maxRecDepth 100000 in
theorem awake8_any (w : World) (hb : BitsOk w) : Calls Tryz.prog 6 #[] w fun e w' => e = .returned (.bool true) ∧ Below w.heap.size w w' := by
  have HB := Lib.hid hb
  have OK0 : Hid ((Dsk.new 9).Ok) := Dsk.Ok.new (by omega) (by omega)
  have u64 : Hid (3 < U64) := by rw [Hid]; unfold U64; omega
  have hex := example8 rfl
  obtain ⟨l2, l3, a2, a3, hl3, hp2, o1, o2, o3⟩ := hex
  have W0 := Lib.hid (wOpen_none (D := Dsk.new 9) (fun _ => rfl) 0 2 1 0)
  have A2 := Lib.hid a2
  have A3 := Lib.hid a3
  have L3 := Lib.hid hl3
  have P2 := Lib.hid hp2
  have O1 := Lib.hid o1
  have O2 := Lib.hid o2
  have O3 := Lib.hid o3
  clear hb a2 a3 hl3 hp2 o1 o2 o3
  go_enter Tryz.func6, Tryz.ntmps6
  go_wp2_with fail
  refine (dnew_any 9 w (by omega) (by omega)).mono ?_
  rintro e w1 ⟨h, rfl, hd, hnew, hbl⟩
  have D1 : Hid (Dp w w1 h (Dsk.new 9)) := ⟨hd, hnew, hbl⟩
  clear hd hnew hbl
  go_wp2_with fail
  refine (lopen_lp (a := 0) (n := 2) (size := 1) (frm := 0) D1.out OK0.out (by omega) (by omega) (by omega) (by omega) (by omega) (by omega) (by have := u64.out; omega) (by show ([] : List Pnd).length ≤ _; simp) rfl).mono ?_
  rintro e w2 ⟨gl, A, k, c, h2, rfl, hp, hg2, ho, -⟩
  rw [W0.out] at hp ho
  have P1 := Lib.hid hp
  have G2 := Lib.hid hg2
  obtain rfl : k = 0 := own_len ho
  clear hp hg2 ho D1
  go_wp2_with fail
  refine (lappend_lp (t := [97]) P1.out HB.out (by simp) (by show ([] : List Pnd).length ≤ _; simp) G2.out).mono ?_
  rintro e w3 ⟨rfl, h3, hp, hg3, -⟩
  rw [A2.out] at hp ⊢
  have PP2 := Lib.hid hp
  have G3 := Lib.hid hg3
  clear hp hg3 P1 G2
  go_wp2_with fail
  refine (lappend_lp (t := [98]) PP2.out HB.out (by simp) P2.out G3.out).mono ?_
  rintro e w4 ⟨rfl, h4, hp, hg4, -⟩
  rw [A3.out] at hp ⊢
  have PP3 := Lib.hid hp
  have G4 := Lib.hid hg4
  clear hp hg4 PP2 G3
  go_wp2_with fail
  refine (lsync_lp PP3.out G4.out).mono ?_
  rintro e w5 ⟨rfl, h5, hp, hg5, -⟩
  have PP5 := Lib.hid hp
  have G5 := Lib.hid hg5
  clear hp hg5 PP3 G4
  go_wp2_with fail
  refine (dcrash_dp (S := fun _ => True) (l := []) PP5.out.dp PP5.out.ok.dok Sl.nil (by simp) (by simp) (by show ([] : List Pnd).length ≤ _; simp) G5.out).mono ?_
  rintro e w6 ⟨rfl, h6, hd, hg6, hs⟩
  obtain ⟨lv, sv, hlg⟩ := PP5.out.lg
  have LB6 := Lib.hid (hs.lb hlg.dk hlg.lb)
  have D6 := Lib.hid hd
  have G6 := Lib.hid hg6
  have OK6 : Hid ((l3.sync.D.crash []).Ok) := by rw [show l3.sync.D.crash [] = l3.sync.D from crash_sync l3.D]; exact PP5.out.ok.dok
  clear hd hg6 hs hlg PP5 G5
  go_wp2_with fail
  refine (lopen_lp (a := 0) (n := 2) (size := 1) (frm := 1) D6.out OK6.out (by omega) (by omega) (by omega) (by omega) (by omega) (by omega) (by have := u64.out; omega) (by show ([] : List Pnd).length ≤ _; simp) G6.out).mono ?_
  rintro e w7 ⟨gm, A7, k7, c7, h7, rfl, hp, hg7, ho, hs⟩
  have P7 := Lib.hid hp
  have LB7 := Lib.hid (hs.lb D6.out.dk LB6.out)
  rw [O3.out] at ho
  obtain rfl : k7 = 1 := own_len ho
  have O7 := Lib.hid ho
  have HS : Hid (l3.sync.synced = 2) := L3.out
  clear hp hg7 ho hs D6 LB6
  go_wp2_with fail
  refine (lgsynced_any gl _ _ _ _ _ _ _ _ w7 LB7.out).mono ?_
  rintro e w8 ⟨rfl, rfl⟩
  rw [HS.out]
  go_wp2_with fail
  have qa := (Below.refl w7.heap.size w7).alloc (Nat.le_refl _) (.cells #[.int .u64 2, .string (st [98])] 71)
  have PA := Lib.hid (P7.out.later qa)
  refine (rsame_any _ _ _ _ [(2, [98])] [(2, [98])] _ (Sl.of_own (by omega) (World.ownsRow.alloc O7.out _)) (Sl.newrec (S := fun _ => True) (g := w7.heap.size) w7 (2, [98]) rfl trivial) ).mono ?_
  rintro e w9 ⟨rfl, nn, rfl⟩
  have P9 := Lib.hid (PA.out.later (below_drewN (Below.refl _ _) nn))
  clear qa PA P7
  go_wp2_with fail
  refine (llast_lp P9.out).mono ?_
  rintro e w10 ⟨rfl, rfl⟩
  rw [O1.out]
  go_wp2_with fail
  refine (llive_lp P9.out).mono ?_
  rintro e w10 ⟨rfl, rfl⟩
  rw [O2.out]
  go_wp2_with fail
  go_ret
  exact ⟨rfl, P9.out.dp.below⟩
end Go.Proofs.YtojlldalhhibmaaGreatDoor

namespace Go.Proofs.YtojlldalhhibmaaGreatDoor
open Go Go.RowKit
set_option linter.unusedVariables false

theorem Sv.one {S : Nat → Prop} (w : World) (x y : Int) {g : Nat} (hg : g = w.heap.size) (hS : S g) : Sv S (w.alloc (.cells #[.int .i64 x, .int .i64 y] 104)) (.slice (some ⟨g, 0, none⟩) 1 1) [(x, y)] := by
  subst hg
  refine ⟨rfl, _, _, rfl, Nat.le_refl _, by simp [maxLen], fun h => (by cases h), fun _ => ⟨_, 0, rfl, hS, fun j u hj => ?_⟩⟩
  have hb := Blk.new w 104 #[.int .i64 x, .int .i64 y]
  match j, hj with
  | 0, hj => rw [← Option.some.inj hj]; exact hb.cell 0
  | 1, hj => rw [← Option.some.inj hj]; exact hb.cell 1
  | j + 2, hj => simp [pcs] at hj

theorem rec_one {q : Nat} (hq : q < U64) {c : UInt8} : (recB q [c]).length ≤ (500 : Int).toNat := by
  have h1 := varB_le10 hq
  have h2 := varB_le 1 [c].length (by simp)
  rw [recB_len]
  unfold recF
  rw [List.length_append, List.length_append]
  simp only [List.length_cons, List.length_nil] at h2 ⊢
  omega
theorem dAt3 {D : Dsk} {a : Int} {num : Nat} {last : Int} {body t : List UInt8} (m : Mr D a num last body) (hn : num + 1 < U64) (ht : t.length ≤ 480) :
    (dAt D (a + (1 - last)) (recB (num + 1) t) 3).view = (D.view.del (a + (1 - last))).put (a + (1 - last)) (recB (num + 1) t) ∧ (dAt D (a + (1 - last)) (recB (num + 1) t) 3).ground = D.view.del (a + (1 - last)) := by
  have hw := m.two.why (recB_short hn ht)
  rw [show dAt D (a + (1 - last)) (recB (num + 1) t) 3 = (D.free (a + (1 - last))).sync.write (a + (1 - last)) (recB (num + 1) t) from rfl, write_view hw]
  refine ⟨?_, ?_⟩
  · rw [put_view]
    show (D.free (a + (1 - last))).view.put _ _ = _
    rw [free_view]
  · show (D.free (a + (1 - last))).view = _
    rw [free_view]
theorem awake12_ne {D : Dsk} {a : Int} {num : Nat} {last : Int} {body t : List UInt8} (m : Mr D a num last body) (hn : num + 1 < U64) (ht : t.length ≤ 480) :
    ∃ x, InI x ∧ ((dAt D (a + (1 - last)) (recB (num + 1) t) 3).view x).isSome ≠ ((dAt D (a + (1 - last)) (recB (num + 1) t) 3).ground x).isSome := by
  obtain ⟨h1, h2⟩ := dAt3 m hn ht
  have := m.at
  have := m.a0
  have := m.mi.l01
  refine ⟨a + (1 - last), by unfold InI; omega, ?_⟩
  rw [h1, h2]
  unfold SF.put SF.del
  simp
theorem awake12_pend {D : Dsk} {x : Int} {b : List UInt8} {a : Int} {num : Nat} {last : Int} {body : List UInt8} (m : Mr D a num last body) : (dAt D x b 3).pend.length ≤ 1000000 := by
  have := dAt_pend D x b 3
  have h := m.pend
  rw [h] at this
  simp at this
  omega
theorem Dp.apart {w W W' : World} {h h' h2 : Zn} {D D2 : Dsk} (d2 : Dp w W h2 D2) (d : Dp w W h D) (s : Stp h W h' W') (hne : ∀ b, h.has b → ¬ h2.has b) : Dp w W' h2 D2 :=
  ⟨d2.dk.apart d.dk s hne, d2.new, Turn.below d.below s.turn d.below.size d.new⟩

end Go.Proofs.YtojlldalhhibmaaGreatDoor

namespace Go.Proofs.YtojlldalhhibmaaGreatDoor
open Go Go.RowKit
set_option linter.unusedVariables false

/-- An act: v is the slice value of what is left. -/
structure MAct where
  kind : Int
  steps : Int
  body : List UInt8
  left : List (Int × Int)
  v : Value
def MAct.Ok (w : World) (x : MAct) : Prop := InI x.kind ∧ InI x.steps ∧ (∀ y ∈ x.left, InI y.1 ∧ InI y.2) ∧ Sv (fun b => b < w.heap.size) w x.v x.left
/-- The slice value v reads as the acts xs. -/
def Acts (w : World) (v : Value) (xs : List MAct) : Prop := ∃ A c, v = .slice A xs.length c ∧ xs.length ≤ 9223372036854775807 ∧ (∀ x ∈ xs, x.Ok w) ∧
  (0 < xs.length → ∃ b o, A = some ⟨b, o, none⟩ ∧ b < w.heap.size ∧ ∀ j (hj : j < xs.length), w.cell? ⟨b, o + j * 4, none⟩ = some (.int .i64 xs[j].kind) ∧ w.cell? ⟨b, o + j * 4 + 1, none⟩ = some (.int .i64 xs[j].steps) ∧
    w.cell? ⟨b, o + j * 4 + 2, none⟩ = some (.string (st xs[j].body)) ∧ w.cell? ⟨b, o + j * 4 + 3, none⟩ = some xs[j].v)
theorem Sv.pre {S : Nat → Prop} {w : World} {n c : Nat} {A : Option Addr} {l : List (Int × Int)} (h : Sv S w (.slice A n c) l) {k : Nat} (hk : k ≤ l.length) : Sv S w (.slice A k c) (l.take k) := by
  obtain ⟨h1, A', c', hv, h3, h4, h5, h6⟩ := h
  cases hv
  have hpt : ∀ (l : List (Int × Int)) (k : Nat), (pcs l).take (k * 2) = pcs (l.take k) := by
    intro l
    induction l with
    | nil => intro k; simp [pcs]
    | cons r rs ih =>
      intro k
      rcases k with _ | k
      · simp [pcs]
      · have := ih k
        rw [show (k + 1) * 2 = k * 2 + 1 + 1 by omega]
        simp only [pcs, List.flatMap_cons, List.take_succ_cons] at this ⊢
        simp only [List.cons_append, List.nil_append, List.take_succ_cons]
        rw [this]
  have e : (l.take k).length = k := by rw [List.length_take]; omega
  refine ⟨by rw [pcs_len], A, c, by rw [e], by omega, h4, h5, fun hn => ?_⟩
  obtain ⟨b, o, ha, hs, hc⟩ := h6 (by omega)
  refine ⟨b, o, ha, hs, fun j u hu => ?_⟩
  rw [← hpt] at hu
  have hj := (List.getElem?_eq_some_iff.1 hu).1
  rw [List.length_take] at hj
  rw [List.getElem?_take_of_lt (by omega)] at hu
  exact hc j u hu
theorem Sv.later {w w' : World} {v : Value} {l : List (Int × Int)} {B : Nat} (h : Sv (fun b => b < B) w v l) (hb : Below B w w') : Sv (fun b => b < B) w' v l :=
  Sl.keep h fun b o hs => World.cell?_of_block (hb.block b hs)
def FwPost (B : Nat) (x : MAct) (w : World) (e : Ending) (w' : World) : Prop :=
  ∃ v', e = .returned (.agg #[.int .i64 x.kind, .int .i64 x.steps, .string (st (x.body.take 600)), v']) ∧ Sv (fun b => b < B) w' v' (x.left.take 20) ∧ Below w.heap.size w w'

end Go.Proofs.YtojlldalhhibmaaGreatDoor

namespace Go.Proofs.YtojlldalhhibmaaGreatDoor
open Go Go.RowKit
set_option linter.unusedVariables false

/-- An act: v is the slice value of what is left. -/
structure LAct where
  kind : Int
  limit : Int
  seq : Nat
  body : List UInt8
  left : List (Int × Int)
  v : Value
def LAct.Ok (w : World) (x : LAct) : Prop := InI x.kind ∧ InI x.limit ∧ x.seq < U64 ∧ (∀ y ∈ x.left, InI y.1 ∧ InI y.2) ∧ Sv (fun b => b < w.heap.size) w x.v x.left
/-- The slice value v reads as the acts xs. -/
def LActs (w : World) (v : Value) (xs : List LAct) : Prop := ∃ A c, v = .slice A xs.length c ∧ xs.length ≤ 9223372036854775807 ∧ (∀ x ∈ xs, x.Ok w) ∧
  (0 < xs.length → ∃ b o, A = some ⟨b, o, none⟩ ∧ b < w.heap.size ∧ ∀ j (hj : j < xs.length), w.cell? ⟨b, o + j * 5, none⟩ = some (.int .i64 xs[j].kind) ∧ w.cell? ⟨b, o + j * 5 + 1, none⟩ = some (.int .i64 xs[j].limit) ∧ w.cell? ⟨b, o + j * 5 + 2, none⟩ = some (.int .u64 (xs[j].seq : Int)) ∧
    w.cell? ⟨b, o + j * 5 + 3, none⟩ = some (.string (st xs[j].body)) ∧ w.cell? ⟨b, o + j * 5 + 4, none⟩ = some xs[j].v)
theorem lactTy : StructTy Tryz.prog 49 5 := ⟨⟨_, Tryz.underlying49⟩, by kernel_rfl⟩

structure LwSt (w W : World) (X Z : Array Value) : Prop where
  x : Blk W w.heap.size 49 X
  z : Blk W (w.heap.size + 1) 49 Z
  below : Below w.heap.size w W
theorem LwSt.start (w : World) (X Z : Array Value) : LwSt w ((w.alloc (.cells X 49)).alloc (.cells Z 49)) X Z := by
  refine ⟨(Blk.new _ _ _).alloc _, ?_, ((Below.refl _ _).alloc (Nat.le_refl _) _).alloc (by simp) _⟩
  have := Blk.new (w.alloc (.cells X 49)) 49 Z
  simpa using this

theorem lfew_fin (w : World) (X Z : Array Value) : Blk ((w.alloc (.cells X 49)).alloc (.cells Z 49)) (w.heap.size + 1) 49 Z ∧ Below w.heap.size w ((w.alloc (.cells X 49)).alloc (.cells Z 49)) := ⟨(LwSt.start w X Z).z, (LwSt.start w X Z).below⟩
def LwPost (B : Nat) (x : LAct) (w : World) (e : Ending) (w' : World) : Prop :=
  ∃ v', e = .returned (.agg #[.int .i64 x.kind, .int .i64 x.limit, .int .u64 (x.seq : Int), .string (st (x.body.take 1500)), v']) ∧ Sv (fun b => b < B) w' v' (x.left.take 60) ∧ Below w.heap.size w w'

set_option maxHeartbeats 4000000 in
set_option maxRecDepth 100000 in
theorem few08_any (B : Nat) (x : LAct) (w : World) (hs : Sv (fun b => b < B) w x.v x.left) (hB : B ≤ w.heap.size) :
    Calls Tryz.prog 10 #[.agg #[.int .i64 x.kind, .int .i64 x.limit, .int .u64 (x.seq : Int), .string (st x.body), x.v]] w (LwPost B x w) := by
  obtain ⟨kind, limit, seq, body, left, v⟩ := x
  simp only at hs ⊢
  obtain ⟨A, c, rfl, hA⟩ := hs.at
  have HS := Lib.hid hs
  have S0 := Lib.hid (LwSt.start w #[.int .i64 kind, .int .i64 limit, .int .u64 (seq : Int), .string (st body), .slice A left.length c] #[.int .i64 0, .int .i64 0, .int .u64 0, .string (st []), .slice none 0 0])
  clear hs
  have hcl : left.length ≤ c := by
    obtain ⟨_, A', c', hv, h3, _⟩ := HS.out
    cases hv
    exact h3
  have HT : Hid (body.length ≤ 1500 → body.take 1500 = body) := fun h => List.take_of_length_le h
  have HTL : Hid (left.length ≤ 60 → left.take 60 = left) := fun h => List.take_of_length_le h
  by_cases hl : 60 < left.length
  · obtain ⟨b, o, rfl, -⟩ := hA (by omega)
    clear hA
    have hc0 : ¬ c = 0 := by omega
    have h20 : (60 : Int) ≤ (c : Int) := by omega
    have HP := Lib.hid (HS.out.pre (k := 60) (by omega))
    by_cases hb : 1500 < body.length
    · go_enter Tryz.func10, Tryz.ntmps10
      go_wp2_with fail
      refine bodyPost_ret (results_cell1 rfl _ _ (w.heap.size + 1) rfl (lfew_fin _ _ _).1 lactTy) rfl ⟨_, rfl, HP.out.later ((lfew_fin _ _ _).2.mono hB), (lfew_fin _ _ _).2⟩
    · have HTT := Lib.hid (HT.out (by omega))
      go_enter Tryz.func10, Tryz.ntmps10
      go_wp2_with fail
      refine bodyPost_ret (results_cell1 rfl _ _ (w.heap.size + 1) rfl (lfew_fin _ _ _).1 lactTy) rfl ⟨_, by simp only; rw [HTT.out], HP.out.later ((lfew_fin _ _ _).2.mono hB), (lfew_fin _ _ _).2⟩
  · have HTM := Lib.hid (HTL.out (by omega))
    clear hA
    by_cases hb : 1500 < body.length
    · go_enter Tryz.func10, Tryz.ntmps10
      go_wp2_with fail
      refine bodyPost_ret (results_cell1 rfl _ _ (w.heap.size + 1) rfl (lfew_fin _ _ _).1 lactTy) rfl ⟨_, rfl, by simp only; rw [HTM.out]; exact HS.out.later ((lfew_fin _ _ _).2.mono hB), (lfew_fin _ _ _).2⟩
    · have HTT := Lib.hid (HT.out (by omega))
      go_enter Tryz.func10, Tryz.ntmps10
      go_wp2_with fail
      refine bodyPost_ret (results_cell1 rfl _ _ (w.heap.size + 1) rfl (lfew_fin _ _ _).1 lactTy) rfl ⟨_, by simp only; rw [HTT.out], by simp only; rw [HTM.out]; exact HS.out.later ((lfew_fin _ _ _).2.mono hB), (lfew_fin _ _ _).2⟩
end Go.Proofs.YtojlldalhhibmaaGreatDoor

namespace Go.Proofs.YtojlldalhhibmaaGreatDoor
open Go Go.RowKit
set_option linter.unusedVariables false

set_option maxHeartbeats 8000000 in
set_option maxRecDepth 100000 in
theorem refWOpen_any (v : Value) (D : Dsk) (a : Int) (n size frm : Nat) (w : World) (hr : RDd w v D) (hok : D.Ok) (hn2 : 2 ≤ n) (hn : n ≤ 64) (hs1 : 1 ≤ size) (hs : size ≤ 64) (h0 : 0 ≤ a) (h1 : a + (n : Int) * size ≤ 65536) (hf : frm < U64) (hp : D.pend.length ≤ 800000) :
    Calls Tryz.prog 8 #[v, .int .i64 a, .int .i64 (n : Int), .int .i64 (size : Int), .int .u64 (frm : Int)] w fun e w' => ∃ v' A k c, e = .returned (.tuple #[v', .slice A k c, .int .i64 0]) ∧
      RLg w' v' (wOpen D a n size frm).1 ∧ Ro w' w.heap.size (.slice A k c) (wOpen D a n size frm).2 ∧ Below w.heap.size w w' := by
  obtain ⟨A1, c1, A2, c2, A3, c3, rfl⟩ := hr.shape
  have HD := Lib.hid hr
  have HOK := Lib.hid hok
  have HF := Lib.hid hf
  have HP := Lib.hid hp
  have hmul := seg_mul hn hs
  have hw1 : IntKind.i64.wrap ((n : Int) * size) = (n : Int) * size := i64_in (by omega) (by omega)
  have hw2 : IntKind.i64.wrap (65536 - (n : Int) * size) = 65536 - (n : Int) * size := i64_in (by omega) (by omega)
  have OKA : Hid (∀ (E : Dsk) (live : List Sg) (last : Nat), E.Ok → (live.map (·.at')).Nodup → (∀ s ∈ live, s.at' < n) → last < U64 → Wl.Ok ⟨E, a, n, size, live, [], last, 0⟩) := fun E live last hE hnd hlt hl =>
    ⟨hE, hn2, hn, hs1, hs, h0, h1, hl, by show 0 < U64; unfold U64; omega, hnd, hlt, fun h => absurd rfl h, Nat.zero_le _⟩
  have S0 : Hid (RoSt w (((w.alloc (.cells #[.int .i64 D.size, .int .i64 D.limit, .slice A1 D.nv c1, .slice A2 D.ng c2, .slice A3 D.pend.length c3] 33)).alloc (.cells zlog 43)).alloc (.cells (rlC ⟨D, a, n, size, [], [], frm, 0⟩ A1 c1 A2 c2 A3 c3 none 0) 43)) D a n size [] frm A1 c1 A2 c2 A3 c3 none 0 (.slice none 0 0) []) := by
    have q1 := (Below.refl w.heap.size w).alloc (Nat.le_refl _) (.cells #[.int .i64 D.size, .int .i64 D.limit, .slice A1 D.nv c1, .slice A2 D.ng c2, .slice A3 D.pend.length c3] 33)
    have q2 := q1.alloc (by simp) (.cells zlog 43)
    have q3 := q2.alloc (by simp; omega) (.cells (rlC ⟨D, a, n, size, [], [], frm, 0⟩ A1 c1 A2 c2 A3 c3 none 0) 43)
    have b1 := Blk.new (w.alloc (.cells #[.int .i64 D.size, .int .i64 D.limit, .slice A1 D.nv c1, .slice A2 D.ng c2, .slice A3 D.pend.length c3] 33)) 43 zlog
    have b2 := Blk.new ((w.alloc (.cells #[.int .i64 D.size, .int .i64 D.limit, .slice A1 D.nv c1, .slice A2 D.ng c2, .slice A3 D.pend.length c3] 33)).alloc (.cells zlog 43)) 43 (rlC ⟨D, a, n, size, [], [], frm, 0⟩ A1 c1 A2 c2 A3 c3 none 0)
    refine ⟨⟨by simpa using b2, HD.out.later q3, KSl.nil⟩, by simpa using b1.alloc (.cells (rlC ⟨D, a, n, size, [], [], frm, 0⟩ A1 c1 A2 c2 A3 c3 none 0) 43), World.ownsRow_nil _ _ _ _, World.ownsRow_nil _ _ _ _, q3⟩
  clear hr hok hf hp
  unfold rlC zlog at S0
  rw [st_nil] at S0
  go_enter Tryz.func8, Tryz.ntmps8
  go_wp2_with fail
  generalize hwa : World.alloc (World.alloc (World.alloc w _) _) _ = wa at *
  clear hwa hw1 hw2
  obtain ⟨m, hm⟩ : ∃ m, (frm + 1) % U64 = m := ⟨_, rfl⟩
  have HM := Lib.hid hm
  have hwr : IntKind.u64.wrap ((frm : Int) + 1) = (m : Int) := by have := u64_add frm 1; rw [hm] at this; simpa using this
  clear hm
  go_loopw [14, 15, 16] (fun nv bv iv wr => ∃ (i : Nat) (r : Int) (q : Nat), nv = .int .i64 r ∧ bv = .int .u64 (q : Int) ∧ iv = .int .i64 (i : Int) ∧ i ≤ n ∧ Hid (FirstR (wPick frm (wAll D.view a size i) none) r q) ∧ Hid (RoSt w wr D a n size [] frm A1 c1 A2 c2 A3 c3 none 0 (.slice none 0 0) [])) (fun _ _ iv _ => n - (intOf iv).toNat)
  case atStart => exact ⟨0, -1, 0, rfl, rfl, rfl, Nat.zero_le _, .inl ⟨rfl, rfl⟩, S0⟩
  case round =>
    obtain ⟨i, r, q, rfl, rfl, rfl, hi, FA, S⟩ := hrel
    clear S0
    by_cases hlt : i < n
    · skip
      have HLK : Hid (Calls Tryz.prog 31 #[.agg (rlC ⟨D, a, n, size, [], [], frm, 0⟩ A1 c1 A2 c2 A3 c3 none 0), .int .i64 (i : Int)] wr (LkPost (wLook D.view a size i) wr)) := refWLook_any _ _ i wr S.out.v.val (OKA.out D [] frm HOK.out (by simp) (by simp) HF.out) (by omega)
      unfold rlC at HLK
      have d0 : (wr).cell? ⟨w.heap.size + 2, 0, none⟩ = some (.int .i64 D.size) := S.out.v.blk.cell 0
      have d1 : (wr).cell? ⟨w.heap.size + 2, 1, none⟩ = some (.int .i64 D.limit) := S.out.v.blk.cell 1
      have d2 : (wr).cell? ⟨w.heap.size + 2, 2, none⟩ = some (.slice A1 D.nv c1) := S.out.v.blk.cell 2
      have d3 : (wr).cell? ⟨w.heap.size + 2, 3, none⟩ = some (.slice A2 D.ng c2) := S.out.v.blk.cell 3
      have d4 : (wr).cell? ⟨w.heap.size + 2, 4, none⟩ = some (.slice A3 D.pend.length c3) := S.out.v.blk.cell 4
      have d5 : (wr).cell? ⟨w.heap.size + 2, 5, none⟩ = some (.int .i64 a) := S.out.v.blk.cell 5
      have d6 : (wr).cell? ⟨w.heap.size + 2, 6, none⟩ = some (.int .i64 (n : Int)) := S.out.v.blk.cell 6
      have d7 : (wr).cell? ⟨w.heap.size + 2, 7, none⟩ = some (.int .i64 (size : Int)) := S.out.v.blk.cell 7
      have d8 : (wr).cell? ⟨w.heap.size + 2, 8, none⟩ = some (.slice none 0 0) := S.out.v.blk.cell 8
      have d9 : (wr).cell? ⟨w.heap.size + 2, 9, none⟩ = some (.string (st [])) := S.out.v.blk.cell 9
      have d10 : (wr).cell? ⟨w.heap.size + 2, 10, none⟩ = some (.int .u64 (frm : Int)) := S.out.v.blk.cell 10
      have d11 : (wr).cell? ⟨w.heap.size + 2, 11, none⟩ = some (.int .u64 0) := S.out.v.blk.cell 11
      go_wp2_with fail
      refine HLK.out.mono ?_
      rintro e w1 ⟨hb1, hm⟩
      have S1 := Lib.hid (S.out.later hb1)
      clear HLK S hb1 d0 d1 d2 d3 d4 d5 d6 d7 d8 d9 d10 d11
      cases hlk : wLook D.view a size i with
      | none =>
        rw [hlk] at hm
        subst hm
        have FN : Hid (FirstR (wPick frm (wAll D.view a size (i + 1)) none) r q) := by rw [Hid, wPick_skip hlk]; exact FA.out
        clear hlk
        go_wp2_with fail
        go_roundw
        case rel => exact ⟨i + 1, r, q, rfl, rfl, by go_num, by omega, FN, S1⟩
        case measure => simp [intOf]; omega
      | some p =>
        obtain ⟨b, rs⟩ := p
        rw [hlk] at hm
        obtain ⟨A, k, c, rfl, hro⟩ := hm
        obtain rfl := own_len hro
        have hrl : Hid (rs.length ≤ 40000) := wLook_recs HOK.out hs hlk
        have HPK := Lib.hid (wPick_look (frm := frm) hlk)
        obtain ⟨sm, hsm⟩ : ∃ sm, (b + rs.length) % U64 = sm := ⟨_, rfl⟩
        have hwq : IntKind.u64.wrap ((b : Int) + (rs.length : Int)) = (sm : Int) := by rw [u64_add, hsm]
        have hwl : IntKind.u64.wrap (rs.length : Int) = (rs.length : Int) := wrap_u64 (by omega) (by have := hrl.out; unfold U64; omega)
        have HFI : Hid ((⟨i, b, rs⟩ : Fd).fits frm = (decide (b ≤ m) && decide (m ≤ sm))) := by rw [Hid]; unfold Fd.fits; rw [HM.out, hsm]
        clear hlk hsm hro
        by_cases hb1 : b ≤ m
        · have hb1' : (b : Int) ≤ (m : Int) := by omega
          by_cases hb2 : m ≤ sm
          · have hb2' : (m : Int) ≤ (sm : Int) := by omega
            have HFT : Hid ((⟨i, b, rs⟩ : Fd).fits frm = true) := by rw [Hid, HFI.out, decide_eq_true hb1, decide_eq_true hb2]; rfl
            clear hb1 hb2
            rcases FA.out with ⟨hpk, hr⟩ | ⟨y, hpk, hr, hq⟩
            · have hrn : r < 0 := by omega
              have FN : Hid (FirstR (wPick frm (wAll D.view a size (i + 1)) none) (i : Int) b) := by
                rw [Hid, HPK.out, wBest_yes HFT.out (by rw [hpk]; rfl)]
                exact .inr ⟨_, rfl, rfl, rfl⟩
              clear hr hpk
              go_wp2_with fail
              go_roundw
              case rel => exact ⟨i + 1, (i:Int), b, rfl, rfl, by go_num, by omega, FN, S1⟩
              case measure => simp [intOf]; omega
            · have hrn : ¬ r < 0 := by omega
              by_cases hqb : q < b
              · have hqb' : (q : Int) < (b : Int) := by omega
                have FN : Hid (FirstR (wPick frm (wAll D.view a size (i + 1)) none) (i : Int) b) := by
                  rw [Hid, HPK.out, wBest_yes HFT.out (by rw [hpk]; simp [betterB]; omega)]
                  exact .inr ⟨_, rfl, rfl, rfl⟩
                clear hr hpk hq hqb
                go_wp2_with fail
                go_roundw
                case rel => exact ⟨i + 1, (i:Int), b, rfl, rfl, by go_num, by omega, FN, S1⟩
                case measure => simp [intOf]; omega
              · have hqb' : decide (q < b) = false := by simp; omega
                have hqb2 : ¬ (q : Int) < (b : Int) := by omega
                have FN : Hid (FirstR (wPick frm (wAll D.view a size (i + 1)) none) r q) := by
                  rw [Hid, HPK.out, wBest_less (by rw [hpk]; simp [betterB]; omega)]
                  exact FA.out
                clear hr hpk hq hqb
                go_wp2_with fail
                go_roundw
                case rel => exact ⟨i + 1, r, q, rfl, rfl, by go_num, by omega, FN, S1⟩
                case measure => simp [intOf]; omega
          · have hb2' : decide (m ≤ sm) = false := by simp; omega
            have FN : Hid (FirstR (wPick frm (wAll D.view a size (i + 1)) none) r q) := by
              rw [Hid, HPK.out, wBest_no (by rw [HFI.out, decide_eq_false hb2, Bool.and_false])]
              exact FA.out
            clear hb1 hb2
            go_wp2_with fail
            go_roundw
            case rel => exact ⟨i + 1, r, q, rfl, rfl, by go_num, by omega, FN, S1⟩
            case measure => simp [intOf]; omega
        · have hb1' : decide (b ≤ m) = false := by simp; omega
          have FN : Hid (FirstR (wPick frm (wAll D.view a size (i + 1)) none) r q) := by
            rw [Hid, HPK.out, wBest_no (by rw [HFI.out, decide_eq_false hb1, Bool.false_and])]
            exact FA.out
          clear hb1
          go_wp2_with fail
          go_roundw
          case rel => exact ⟨i + 1, r, q, rfl, rfl, by go_num, by omega, FN, S1⟩
          case measure => simp [intOf]; omega
    · obtain rfl : i = n := by omega
      have NX0 := Lib.hid FA.out.nx
      clear FA
      have SA : Hid (RoSt w (wr.alloc (.cells #[] 71)) D a i size [] frm A1 c1 A2 c2 A3 c3 none 0 (.slice (some ⟨wr.heap.size, 0, none⟩) 0 0) []) := by
        have s1 := S.out.later ((Below.refl _ _).alloc (Nat.le_refl _) (.cells #[] 71))
        refine ⟨s1.v, s1.z, s1.lown, ?_, s1.below⟩
        exact own_lower (World.ownsRow_made wr #[] 0 (Nat.le_refl _) (by simp [maxLen]) (by simp)) S.out.below.size
      clear S
      go_wp2_with fail
      generalize hwb : wr.alloc _ = wb at *
      clear hwb
      generalize wr.heap.size = g0 at *
      go_loopg [14, 20] (i + 1) (fun gf nv ov wq => ∃ (r : Int) (live : List Sg) (last : Nat) (out : List Rcd) (nx : Option Fd) (A : Option Addr) (m c : Nat) (Al : Option Addr) (cl : Nat), ov = .slice A m c ∧ nv = .int .i64 r ∧ Hid (NxR nx r) ∧ Hid (ChSt (wAll D.view a size i) frm i live last out nx) ∧ Hid (RoSt w wq D a i size live last A1 c1 A2 c2 A3 c3 Al cl (.slice A m c) out) ∧ gf + live.length = i + 1)
      case atStart => exact ⟨r, [], frm, [], _, _, 0, 0, none, 0, rfl, rfl, NX0, ChSt.start HF.out, SA, by simp⟩
      case round =>
        obtain ⟨r2, live, last, out, nx, A, mo, co, Al, cl, rfl, rfl, NA, CH, S, hgk⟩ := hrel
        clear NX0 SA
        rcases NA.out with ⟨hnx, hr⟩ | ⟨x, hnx, hr⟩
        · subst hr hnx
          have CE := Lib.hid CH.out.end
          have OKC := Lib.hid (fun (E : Dsk) (hE : E.Ok) => OKA.out E live last hE CH.out.nd CH.out.lt CH.out.last)
          have hll := CH.out.len
          have hll2 : Hid (live.length ≤ 100) := by rw [Hid]; omega
          clear NA CH
          go_wp2_with fail
          have SE : Hid (RoE w wr (wFreeAll D a size live 0) a i size live last (.slice A mo co) out) := ⟨_, _, _, _, _, _, _, _, S.out.v, S.out.z, S.out.oown, S.out.below⟩
          clear S
          go_loopw [29] (fun kv wq => ∃ k : Nat, kv = .int .i64 (k : Int) ∧ k ≤ i ∧ Hid (RoE w wq (wFreeAll D a size live k) a i size live last (.slice A mo co) out)) (fun kv _ => i - (intOf kv).toNat)
          case atStart => exact ⟨0, rfl, Nat.zero_le _, SE⟩
          case round =>
            obtain ⟨k, rfl, hk, SK⟩ := hrel
            clear SE
            have EOK := Lib.hid (wFreeAll_ok HOK.out a size live k)
            have EP : Hid ((wFreeAll D a size live k).pend.length ≤ 900000) := by
              have h1 := wFreeAll_pend D a size live k
              have h2 := HP.out
              have h3 : k * size ≤ 64 * 64 := Nat.mul_le_mul (by omega) hs
              rw [Hid]
              omega
            have HES : Hid (wFreeAll D a size live (k + 1) = if usedL live k then wFreeAll D a size live k else wFree (wFreeAll D a size live k) (a + (k : Int) * size) size) := rfl
            have CEE := Lib.hid (fun (h : k = i) => h)
            obtain ⟨E, hE⟩ : ∃ E, wFreeAll D a size live k = E := ⟨_, rfl⟩
            have HE := Lib.hid hE
            rw [hE] at SK EOK EP HES
            clear hE CEE
            obtain ⟨A1, c1, A2, c2, A3, c3, A4, c4, V, Z, O, B⟩ := SK.out
            have SV := Lib.hid V
            have SZ := Lib.hid Z
            have SO := Lib.hid O
            have SB := Lib.hid B
            clear V Z O B SK
            have d0 : (wr).cell? ⟨w.heap.size + 2, 0, none⟩ = some (.int .i64 E.size) := SV.out.blk.cell 0
            have d1 : (wr).cell? ⟨w.heap.size + 2, 1, none⟩ = some (.int .i64 E.limit) := SV.out.blk.cell 1
            have d2 : (wr).cell? ⟨w.heap.size + 2, 2, none⟩ = some (.slice A1 E.nv c1) := SV.out.blk.cell 2
            have d3 : (wr).cell? ⟨w.heap.size + 2, 3, none⟩ = some (.slice A2 E.ng c2) := SV.out.blk.cell 3
            have d4 : (wr).cell? ⟨w.heap.size + 2, 4, none⟩ = some (.slice A3 E.pend.length c3) := SV.out.blk.cell 4
            have d5 : (wr).cell? ⟨w.heap.size + 2, 5, none⟩ = some (.int .i64 a) := SV.out.blk.cell 5
            have d6 : (wr).cell? ⟨w.heap.size + 2, 6, none⟩ = some (.int .i64 (i : Int)) := SV.out.blk.cell 6
            have d7 : (wr).cell? ⟨w.heap.size + 2, 7, none⟩ = some (.int .i64 (size : Int)) := SV.out.blk.cell 7
            have d8 : (wr).cell? ⟨w.heap.size + 2, 8, none⟩ = some (.slice A4 live.length c4) := SV.out.blk.cell 8
            have d9 : (wr).cell? ⟨w.heap.size + 2, 9, none⟩ = some (.string (st [])) := SV.out.blk.cell 9
            have d10 : (wr).cell? ⟨w.heap.size + 2, 10, none⟩ = some (.int .u64 (last : Int)) := SV.out.blk.cell 10
            have d11 : (wr).cell? ⟨w.heap.size + 2, 11, none⟩ = some (.int .u64 0) := SV.out.blk.cell 11
            have df0 : (wr).frozen? ⟨w.heap.size + 2, 0, none⟩ = false := SV.out.blk.free 0
            have df1 : (wr).frozen? ⟨w.heap.size + 2, 1, none⟩ = false := SV.out.blk.free 1
            have df2 : (wr).frozen? ⟨w.heap.size + 2, 2, none⟩ = false := SV.out.blk.free 2
            have df3 : (wr).frozen? ⟨w.heap.size + 2, 3, none⟩ = false := SV.out.blk.free 3
            have df4 : (wr).frozen? ⟨w.heap.size + 2, 4, none⟩ = false := SV.out.blk.free 4
            have df5 : (wr).frozen? ⟨w.heap.size + 2, 5, none⟩ = false := SV.out.blk.free 5
            have df6 : (wr).frozen? ⟨w.heap.size + 2, 6, none⟩ = false := SV.out.blk.free 6
            have df7 : (wr).frozen? ⟨w.heap.size + 2, 7, none⟩ = false := SV.out.blk.free 7
            have df8 : (wr).frozen? ⟨w.heap.size + 2, 8, none⟩ = false := SV.out.blk.free 8
            have df9 : (wr).frozen? ⟨w.heap.size + 2, 9, none⟩ = false := SV.out.blk.free 9
            have df10 : (wr).frozen? ⟨w.heap.size + 2, 10, none⟩ = false := SV.out.blk.free 10
            have df11 : (wr).frozen? ⟨w.heap.size + 2, 11, none⟩ = false := SV.out.blk.free 11
            have HVL : Hid (RLg wr (.agg (rlC ⟨E, a, i, size, live, [], last, 0⟩ A1 c1 A2 c2 A3 c3 A4 c4)) ⟨E, a, i, size, live, [], last, 0⟩) := SV.out.val
            unfold rlC at HVL
            by_cases hlt : k < i
            · skip
              go_wp2_with fail
              refine (refWUsed_any _ _ k wr HVL.out hll2.out).mono ?_
              rintro e w4 ⟨rfl, hb4⟩
              have SV4 := Lib.hid (SV.out.later hb4)
              have SZ4 := Lib.hid (SZ.out.later hb4)
              have SO4 := Lib.hid (own_later SO.out hb4)
              have SB4 := Lib.hid (SB.out.trans (hb4.mono SB.out.size))
              have HVL4 : Hid (RLg w4 (.agg (rlC ⟨E, a, i, size, live, [], last, 0⟩ A1 c1 A2 c2 A3 c3 A4 c4)) ⟨E, a, i, size, live, [], last, 0⟩) := SV4.out.val
              unfold rlC at HVL4
              clear hb4 SV SZ SO SB HVL d0 d1 d2 d3 d4 d5 d6 d7 d8 d9 d10 d11 df0 df1 df2 df3 df4 df5 df6 df7 df8 df9 df10 df11
              have d0 : (w4).cell? ⟨w.heap.size + 2, 0, none⟩ = some (.int .i64 E.size) := SV4.out.blk.cell 0
              have d1 : (w4).cell? ⟨w.heap.size + 2, 1, none⟩ = some (.int .i64 E.limit) := SV4.out.blk.cell 1
              have d2 : (w4).cell? ⟨w.heap.size + 2, 2, none⟩ = some (.slice A1 E.nv c1) := SV4.out.blk.cell 2
              have d3 : (w4).cell? ⟨w.heap.size + 2, 3, none⟩ = some (.slice A2 E.ng c2) := SV4.out.blk.cell 3
              have d4 : (w4).cell? ⟨w.heap.size + 2, 4, none⟩ = some (.slice A3 E.pend.length c3) := SV4.out.blk.cell 4
              have d5 : (w4).cell? ⟨w.heap.size + 2, 5, none⟩ = some (.int .i64 a) := SV4.out.blk.cell 5
              have d6 : (w4).cell? ⟨w.heap.size + 2, 6, none⟩ = some (.int .i64 (i : Int)) := SV4.out.blk.cell 6
              have d7 : (w4).cell? ⟨w.heap.size + 2, 7, none⟩ = some (.int .i64 (size : Int)) := SV4.out.blk.cell 7
              have d8 : (w4).cell? ⟨w.heap.size + 2, 8, none⟩ = some (.slice A4 live.length c4) := SV4.out.blk.cell 8
              have d9 : (w4).cell? ⟨w.heap.size + 2, 9, none⟩ = some (.string (st [])) := SV4.out.blk.cell 9
              have d10 : (w4).cell? ⟨w.heap.size + 2, 10, none⟩ = some (.int .u64 (last : Int)) := SV4.out.blk.cell 10
              have d11 : (w4).cell? ⟨w.heap.size + 2, 11, none⟩ = some (.int .u64 0) := SV4.out.blk.cell 11
              have df0 : (w4).frozen? ⟨w.heap.size + 2, 0, none⟩ = false := SV4.out.blk.free 0
              have df1 : (w4).frozen? ⟨w.heap.size + 2, 1, none⟩ = false := SV4.out.blk.free 1
              have df2 : (w4).frozen? ⟨w.heap.size + 2, 2, none⟩ = false := SV4.out.blk.free 2
              have df3 : (w4).frozen? ⟨w.heap.size + 2, 3, none⟩ = false := SV4.out.blk.free 3
              have df4 : (w4).frozen? ⟨w.heap.size + 2, 4, none⟩ = false := SV4.out.blk.free 4
              have df5 : (w4).frozen? ⟨w.heap.size + 2, 5, none⟩ = false := SV4.out.blk.free 5
              have df6 : (w4).frozen? ⟨w.heap.size + 2, 6, none⟩ = false := SV4.out.blk.free 6
              have df7 : (w4).frozen? ⟨w.heap.size + 2, 7, none⟩ = false := SV4.out.blk.free 7
              have df8 : (w4).frozen? ⟨w.heap.size + 2, 8, none⟩ = false := SV4.out.blk.free 8
              have df9 : (w4).frozen? ⟨w.heap.size + 2, 9, none⟩ = false := SV4.out.blk.free 9
              have df10 : (w4).frozen? ⟨w.heap.size + 2, 10, none⟩ = false := SV4.out.blk.free 10
              have df11 : (w4).frozen? ⟨w.heap.size + 2, 11, none⟩ = false := SV4.out.blk.free 11
              cases hu : usedL live k with
              | true =>
                have SN : Hid (RoE w w4 (wFreeAll D a size live (k + 1)) a i size live last (.slice A mo co) out) := by rw [Hid, HES.out, if_pos hu]; exact ⟨_, _, _, _, _, _, _, _, SV4.out, SZ4.out, SO4.out, SB4.out⟩
                clear hu
                go_wp2_with fail
                go_roundw
                case rel => exact ⟨k + 1, by go_num, by omega, SN⟩
                case measure => simp [intOf]; omega
              | false =>
                have HEN : Hid (wFreeAll D a size live (k + 1) = wFree E (a + (k : Int) * size) size) := by rw [Hid, HES.out, if_neg (by rw [hu]; simp)]
                clear hu
                go_wp2_with fail
                refine (refWFree_any _ _ k w4 HVL4.out (OKC.out E EOK.out) (by omega) EP.out).mono ?_
                rintro e w5 ⟨v5, rfl, hr5, hb5⟩
                obtain ⟨B1, d1', B2, d2', B3, d3', B4, d4', rfl, hD5, hG5⟩ := hr5
                have SV5 := Lib.hid (SV4.out.later hb5)
                have SZ5 := Lib.hid (SZ4.out.later hb5)
                have SO5 := Lib.hid (own_later SO4.out hb5)
                have SB5 := Lib.hid (SB4.out.trans (hb5.mono SB4.out.size))
                clear hb5 SV4 SZ4 SO4 SB4 HVL4 d0 d1 d2 d3 d4 d5 d6 d7 d8 d9 d10 d11 df0 df1 df2 df3 df4 df5 df6 df7 df8 df9 df10 df11
                have SN : Hid (RoE w (putL w5 (w.heap.size + 2) (rlC ⟨wFree E (a + (k : Int) * size) size, a, i, size, live, [], last, 0⟩ B1 d1' B2 d2' B3 d3' B4 d4')) (wFreeAll D a size live (k + 1)) a i size live last (.slice A mo co) out) := by
                  rw [Hid, HEN.out]
                  exact RoE.put SV5.out SZ5.out SO5.out SB5.out hD5.out hG5.out
                unfold putL rlC at SN
                unfold rlC
                obtain ⟨E', hE'⟩ : ∃ E', wFree E (a + (k : Int) * size) size = E' := ⟨_, rfl⟩
                rw [hE'] at SN ⊢
                clear hE' hD5 hG5
                have d0 : (w5).cell? ⟨w.heap.size + 2, 0, none⟩ = some (.int .i64 E.size) := SV5.out.blk.cell 0
                have d1 : (w5).cell? ⟨w.heap.size + 2, 1, none⟩ = some (.int .i64 E.limit) := SV5.out.blk.cell 1
                have d2 : (w5).cell? ⟨w.heap.size + 2, 2, none⟩ = some (.slice A1 E.nv c1) := SV5.out.blk.cell 2
                have d3 : (w5).cell? ⟨w.heap.size + 2, 3, none⟩ = some (.slice A2 E.ng c2) := SV5.out.blk.cell 3
                have d4 : (w5).cell? ⟨w.heap.size + 2, 4, none⟩ = some (.slice A3 E.pend.length c3) := SV5.out.blk.cell 4
                have d5 : (w5).cell? ⟨w.heap.size + 2, 5, none⟩ = some (.int .i64 a) := SV5.out.blk.cell 5
                have d6 : (w5).cell? ⟨w.heap.size + 2, 6, none⟩ = some (.int .i64 (i : Int)) := SV5.out.blk.cell 6
                have d7 : (w5).cell? ⟨w.heap.size + 2, 7, none⟩ = some (.int .i64 (size : Int)) := SV5.out.blk.cell 7
                have d8 : (w5).cell? ⟨w.heap.size + 2, 8, none⟩ = some (.slice A4 live.length c4) := SV5.out.blk.cell 8
                have d9 : (w5).cell? ⟨w.heap.size + 2, 9, none⟩ = some (.string (st [])) := SV5.out.blk.cell 9
                have d10 : (w5).cell? ⟨w.heap.size + 2, 10, none⟩ = some (.int .u64 (last : Int)) := SV5.out.blk.cell 10
                have d11 : (w5).cell? ⟨w.heap.size + 2, 11, none⟩ = some (.int .u64 0) := SV5.out.blk.cell 11
                have df0 : (w5).frozen? ⟨w.heap.size + 2, 0, none⟩ = false := SV5.out.blk.free 0
                have df1 : (w5).frozen? ⟨w.heap.size + 2, 1, none⟩ = false := SV5.out.blk.free 1
                have df2 : (w5).frozen? ⟨w.heap.size + 2, 2, none⟩ = false := SV5.out.blk.free 2
                have df3 : (w5).frozen? ⟨w.heap.size + 2, 3, none⟩ = false := SV5.out.blk.free 3
                have df4 : (w5).frozen? ⟨w.heap.size + 2, 4, none⟩ = false := SV5.out.blk.free 4
                have df5 : (w5).frozen? ⟨w.heap.size + 2, 5, none⟩ = false := SV5.out.blk.free 5
                have df6 : (w5).frozen? ⟨w.heap.size + 2, 6, none⟩ = false := SV5.out.blk.free 6
                have df7 : (w5).frozen? ⟨w.heap.size + 2, 7, none⟩ = false := SV5.out.blk.free 7
                have df8 : (w5).frozen? ⟨w.heap.size + 2, 8, none⟩ = false := SV5.out.blk.free 8
                have df9 : (w5).frozen? ⟨w.heap.size + 2, 9, none⟩ = false := SV5.out.blk.free 9
                have df10 : (w5).frozen? ⟨w.heap.size + 2, 10, none⟩ = false := SV5.out.blk.free 10
                have df11 : (w5).frozen? ⟨w.heap.size + 2, 11, none⟩ = false := SV5.out.blk.free 11
                go_wp2_with fail
                go_roundw
                case rel => exact ⟨k + 1, by go_num, by omega, SN⟩
                case measure => simp [intOf]; omega
            · obtain rfl : i = k := by omega
              rcases Nat.lt_or_ge last frm with hmx | hmx
              · have hmx2 : (last : Int) < (frm : Int) := by omega
                have HMX : Hid (max last frm = frm) := Nat.max_eq_right (by omega)
                have SV2 := Lib.hid (SV.out.setLast frm)
                have SZ2 := Lib.hid (SZ.out.other (g := w.heap.size + 2) (by omega) 10 (.int .u64 (frm : Int)))
                have SO2 := Lib.hid (own_sameK (ks := [some 71]) SO.out (SameK.setCell (p := ⟨w.heap.size + 2, 10, none⟩) SV.out.blk (by decide) (.int .u64 (frm : Int))) (by decide))
                have SB2 := Lib.hid (SB.out.setCell (p := ⟨w.heap.size + 2, 10, none⟩) (by simp) (.int .u64 (frm : Int)))
                clear hmx
                go_wp2_with fail
                generalize hW2 : World.setCell wr _ _ = W2 at *
                clear hW2
                refine (refWSync_any _ _ W2 SV2.out.val).mono ?_
                rintro e w6 ⟨v6, rfl, hr6, hb6⟩
                have Z6 : Hid (Blk w6 (w.heap.size + 1) 43 zlog) := SZ2.out.later hb6
                have O6 := Lib.hid (own_later SO2.out hb6)
                have B6 := Lib.hid (SB2.out.trans (hb6.mono SB2.out.size))
                obtain ⟨B1, d1', B2, d2', B3, d3', B4, d4', rfl, hD6, hG6⟩ := hr6
                have HF6 := Lib.hid (lay_log Z6.out O6.out B6.out hD6.out hG6.out)
                have r0 : (w6).cell? ⟨w.heap.size + 1, 0, none⟩ = some (.int .i64 0) := Z6.out.cell 0
                have r1 : (w6).cell? ⟨w.heap.size + 1, 1, none⟩ = some (.int .i64 0) := Z6.out.cell 1
                have r2 : (w6).cell? ⟨w.heap.size + 1, 2, none⟩ = some (.slice none 0 0) := Z6.out.cell 2
                have r3 : (w6).cell? ⟨w.heap.size + 1, 3, none⟩ = some (.slice none 0 0) := Z6.out.cell 3
                have r4 : (w6).cell? ⟨w.heap.size + 1, 4, none⟩ = some (.slice none 0 0) := Z6.out.cell 4
                have r5 : (w6).cell? ⟨w.heap.size + 1, 5, none⟩ = some (.int .i64 0) := Z6.out.cell 5
                have r6 : (w6).cell? ⟨w.heap.size + 1, 6, none⟩ = some (.int .i64 0) := Z6.out.cell 6
                have r7 : (w6).cell? ⟨w.heap.size + 1, 7, none⟩ = some (.int .i64 0) := Z6.out.cell 7
                have r8 : (w6).cell? ⟨w.heap.size + 1, 8, none⟩ = some (.slice none 0 0) := Z6.out.cell 8
                have r9 : (w6).cell? ⟨w.heap.size + 1, 9, none⟩ = some (.string ⟨#[]⟩) := Z6.out.cell 9
                have r10 : (w6).cell? ⟨w.heap.size + 1, 10, none⟩ = some (.int .u64 0) := Z6.out.cell 10
                have r11 : (w6).cell? ⟨w.heap.size + 1, 11, none⟩ = some (.int .u64 0) := Z6.out.cell 11
                have rf0 : (w6).frozen? ⟨w.heap.size + 1, 0, none⟩ = false := Z6.out.free 0
                have rf1 : (w6).frozen? ⟨w.heap.size + 1, 1, none⟩ = false := Z6.out.free 1
                have rf2 : (w6).frozen? ⟨w.heap.size + 1, 2, none⟩ = false := Z6.out.free 2
                have rf3 : (w6).frozen? ⟨w.heap.size + 1, 3, none⟩ = false := Z6.out.free 3
                have rf4 : (w6).frozen? ⟨w.heap.size + 1, 4, none⟩ = false := Z6.out.free 4
                have rf5 : (w6).frozen? ⟨w.heap.size + 1, 5, none⟩ = false := Z6.out.free 5
                have rf6 : (w6).frozen? ⟨w.heap.size + 1, 6, none⟩ = false := Z6.out.free 6
                have rf7 : (w6).frozen? ⟨w.heap.size + 1, 7, none⟩ = false := Z6.out.free 7
                have rf8 : (w6).frozen? ⟨w.heap.size + 1, 8, none⟩ = false := Z6.out.free 8
                have rf9 : (w6).frozen? ⟨w.heap.size + 1, 9, none⟩ = false := Z6.out.free 9
                have rf10 : (w6).frozen? ⟨w.heap.size + 1, 10, none⟩ = false := Z6.out.free 10
                have rf11 : (w6).frozen? ⟨w.heap.size + 1, 11, none⟩ = false := Z6.out.free 11
                unfold putL rlC at HF6
                unfold rlC
                go_wp2_with fail
                have ce := CE.out
                refine bodyPost_ret (results_cell3 rfl _ _ (w.heap.size + 1) rfl HF6.out.1 logTy) rfl ⟨_, A, mo, co, rfl, ?_, ?_, HF6.out.2.2.2⟩
                · have hL := HF6.out.2.1
                  rw [wOpen_wl ce]
                  rw [HMX.out]
                  rw [HE.out]
                  exact hL
                · rw [ow_out ce]; exact HF6.out.2.2.1
              · have hmx2 : ¬ (last : Int) < (frm : Int) := by omega
                have hmx3 : decide (last < frm) = false := by simp; omega
                have HMX : Hid (max last frm = last) := Nat.max_eq_left (by omega)
                clear hmx
                go_wp2_with fail
                refine (refWSync_any _ _ wr SV.out.val).mono ?_
                rintro e w6 ⟨v6, rfl, hr6, hb6⟩
                have Z6 : Hid (Blk w6 (w.heap.size + 1) 43 zlog) := SZ.out.later hb6
                have O6 := Lib.hid (own_later SO.out hb6)
                have B6 := Lib.hid (SB.out.trans (hb6.mono SB.out.size))
                obtain ⟨B1, d1', B2, d2', B3, d3', B4, d4', rfl, hD6, hG6⟩ := hr6
                have HF6 := Lib.hid (lay_log Z6.out O6.out B6.out hD6.out hG6.out)
                have r0 : (w6).cell? ⟨w.heap.size + 1, 0, none⟩ = some (.int .i64 0) := Z6.out.cell 0
                have r1 : (w6).cell? ⟨w.heap.size + 1, 1, none⟩ = some (.int .i64 0) := Z6.out.cell 1
                have r2 : (w6).cell? ⟨w.heap.size + 1, 2, none⟩ = some (.slice none 0 0) := Z6.out.cell 2
                have r3 : (w6).cell? ⟨w.heap.size + 1, 3, none⟩ = some (.slice none 0 0) := Z6.out.cell 3
                have r4 : (w6).cell? ⟨w.heap.size + 1, 4, none⟩ = some (.slice none 0 0) := Z6.out.cell 4
                have r5 : (w6).cell? ⟨w.heap.size + 1, 5, none⟩ = some (.int .i64 0) := Z6.out.cell 5
                have r6 : (w6).cell? ⟨w.heap.size + 1, 6, none⟩ = some (.int .i64 0) := Z6.out.cell 6
                have r7 : (w6).cell? ⟨w.heap.size + 1, 7, none⟩ = some (.int .i64 0) := Z6.out.cell 7
                have r8 : (w6).cell? ⟨w.heap.size + 1, 8, none⟩ = some (.slice none 0 0) := Z6.out.cell 8
                have r9 : (w6).cell? ⟨w.heap.size + 1, 9, none⟩ = some (.string ⟨#[]⟩) := Z6.out.cell 9
                have r10 : (w6).cell? ⟨w.heap.size + 1, 10, none⟩ = some (.int .u64 0) := Z6.out.cell 10
                have r11 : (w6).cell? ⟨w.heap.size + 1, 11, none⟩ = some (.int .u64 0) := Z6.out.cell 11
                have rf0 : (w6).frozen? ⟨w.heap.size + 1, 0, none⟩ = false := Z6.out.free 0
                have rf1 : (w6).frozen? ⟨w.heap.size + 1, 1, none⟩ = false := Z6.out.free 1
                have rf2 : (w6).frozen? ⟨w.heap.size + 1, 2, none⟩ = false := Z6.out.free 2
                have rf3 : (w6).frozen? ⟨w.heap.size + 1, 3, none⟩ = false := Z6.out.free 3
                have rf4 : (w6).frozen? ⟨w.heap.size + 1, 4, none⟩ = false := Z6.out.free 4
                have rf5 : (w6).frozen? ⟨w.heap.size + 1, 5, none⟩ = false := Z6.out.free 5
                have rf6 : (w6).frozen? ⟨w.heap.size + 1, 6, none⟩ = false := Z6.out.free 6
                have rf7 : (w6).frozen? ⟨w.heap.size + 1, 7, none⟩ = false := Z6.out.free 7
                have rf8 : (w6).frozen? ⟨w.heap.size + 1, 8, none⟩ = false := Z6.out.free 8
                have rf9 : (w6).frozen? ⟨w.heap.size + 1, 9, none⟩ = false := Z6.out.free 9
                have rf10 : (w6).frozen? ⟨w.heap.size + 1, 10, none⟩ = false := Z6.out.free 10
                have rf11 : (w6).frozen? ⟨w.heap.size + 1, 11, none⟩ = false := Z6.out.free 11
                unfold putL rlC at HF6
                unfold rlC
                go_wp2_with fail
                have ce := CE.out
                refine bodyPost_ret (results_cell3 rfl _ _ (w.heap.size + 1) rfl HF6.out.1 logTy) rfl ⟨_, A, mo, co, rfl, ?_, ?_, HF6.out.2.2.2⟩
                · have hL := HF6.out.2.1
                  rw [wOpen_wl ce]
                  rw [HMX.out]
                  rw [HE.out]
                  exact hL
                · rw [ow_out ce]; exact HF6.out.2.2.1
        · subst hr hnx
          obtain ⟨hxu, hxm⟩ := CH.out.nx x rfl
          obtain ⟨hxn, hxl⟩ := wAll_mem hxm
          have hln := CH.out.len
          have hrl : Hid (x.recs.length ≤ 40000) := wLook_recs HOK.out hs hxl
          have hol := Lib.hid CH.out.out
          have HLK : Hid (Calls Tryz.prog 31 #[.agg (rlC ⟨D, a, i, size, live, [], last, 0⟩ A1 c1 A2 c2 A3 c3 Al cl), .int .i64 (x.at' : Int)] wr (LkPost (wLook D.view a size x.at') wr)) := refWLook_any _ _ x.at' wr S.out.v.val (OKA.out D live last HOK.out CH.out.nd CH.out.lt CH.out.last) (by omega)
          rw [hxl] at HLK
          unfold rlC at HLK
          have d0 : (wr).cell? ⟨w.heap.size + 2, 0, none⟩ = some (.int .i64 D.size) := S.out.v.blk.cell 0
          have d1 : (wr).cell? ⟨w.heap.size + 2, 1, none⟩ = some (.int .i64 D.limit) := S.out.v.blk.cell 1
          have d2 : (wr).cell? ⟨w.heap.size + 2, 2, none⟩ = some (.slice A1 D.nv c1) := S.out.v.blk.cell 2
          have d3 : (wr).cell? ⟨w.heap.size + 2, 3, none⟩ = some (.slice A2 D.ng c2) := S.out.v.blk.cell 3
          have d4 : (wr).cell? ⟨w.heap.size + 2, 4, none⟩ = some (.slice A3 D.pend.length c3) := S.out.v.blk.cell 4
          have d5 : (wr).cell? ⟨w.heap.size + 2, 5, none⟩ = some (.int .i64 a) := S.out.v.blk.cell 5
          have d6 : (wr).cell? ⟨w.heap.size + 2, 6, none⟩ = some (.int .i64 (i : Int)) := S.out.v.blk.cell 6
          have d7 : (wr).cell? ⟨w.heap.size + 2, 7, none⟩ = some (.int .i64 (size : Int)) := S.out.v.blk.cell 7
          have d8 : (wr).cell? ⟨w.heap.size + 2, 8, none⟩ = some (.slice Al live.length cl) := S.out.v.blk.cell 8
          have d9 : (wr).cell? ⟨w.heap.size + 2, 9, none⟩ = some (.string (st [])) := S.out.v.blk.cell 9
          have d10 : (wr).cell? ⟨w.heap.size + 2, 10, none⟩ = some (.int .u64 (last : Int)) := S.out.v.blk.cell 10
          have d11 : (wr).cell? ⟨w.heap.size + 2, 11, none⟩ = some (.int .u64 0) := S.out.v.blk.cell 11
          go_wp2_with fail
          refine HLK.out.mono ?_
          rintro e w1 ⟨hb1, A5, k5, c5, rfl, hro⟩
          obtain rfl := own_len hro
          have RA := Lib.hid (RecAt.start hro S.out.oown)
          have S1 := Lib.hid (S.out.later hb1)
          have QA := (Below.refl w1.heap.size w1).alloc (Nat.le_refl _) (.cells #[.int .i64 (x.at' : Int), .int .u64 (x.base : Int), .int .u64 (x.recs.length : Int)] 89)
          have S2 := Lib.hid (S1.out.later QA)
          have RA2 := Lib.hid (RA.out.later QA)
          have NS := Lib.hid (Sl.newrsg w1 ⟨x.at', x.base, x.recs.length⟩ rfl)
          have HB2 := Lib.hid S2.out.below.size
          have HSG : Hid ((⟨x.at', x.base, x.recs.length⟩ : Sg) = x.sg) := by
            have := hrl.out
            rw [Hid]
            unfold Fd.sg
            rw [Nat.mod_eq_of_lt (by unfold U64; omega)]
          have hwl : IntKind.u64.wrap (x.recs.length : Int) = (x.recs.length : Int) := wrap_u64 (by omega) (by have := hrl.out; unfold U64; omega)
          have hwa := u64_add x.base x.recs.length
          have hwb : IntKind.u64.wrap ((((x.base + x.recs.length) % U64 : Nat) : Int) - 1) = ((x.last : Nat) : Int) := by rw [u64_pred, fd_last]
          have hwb2 : IntKind.u64.wrap (((x.base : Int) + (x.recs.length : Int)) % (U64 : Int) - 1) = ((x.last : Nat) : Int) := by
            rw [← hwb]
            push_cast
            rfl
          have d8' : w1.cell? ⟨w.heap.size + 2, 8, none⟩ = some (.slice Al live.length cl) := S1.out.v.blk.cell 8
          have d8'' : (w1.alloc (.cells #[.int .i64 (x.at' : Int), .int .u64 (x.base : Int), .int .u64 (x.recs.length : Int)] 89)).cell? ⟨w.heap.size + 2, 8, none⟩ = some (.slice Al live.length cl) := S2.out.v.blk.cell 8
          clear HLK S hb1 hro RA QA d0 d1 d2 d3 d4 d5 d6 d7 d8 d9 d10 d11 hxl
          have hM1 : Hid (live.length + 1 ≤ maxLen) := by simp only [Hid, maxLen]; omega
          have hM2 : Hid ((live.length + 1) * 24 ≤ 140737488355328) := by rw [Hid]; omega
          go_wp2_with (at_builtin; refine wpList_append_sl _ rfl (.tmp 114) (.tmp 121) elemRsg rfl S2.out.lown NS.out rfl rfl (sgC_one _) hM1.out hM2.out HB2.out ?_; intro A6 k6 c6 w6 hown6 hg6 hat6; have b6 := S2.out.v.blk.kept S2.out.lown hg6 (by decide); have f8 := b6.free 8; have f10 := b6.free 10; have e8 : w6.cell? ⟨w.heap.size + 2, 8, none⟩ = some (.slice Al live.length cl) := b6.cell 8; have e10 : w6.cell? ⟨w.heap.size + 2, 10, none⟩ = some (.int .u64 (last : Int)) := b6.cell 10)
          obtain ⟨-, S3⟩ := S2.out.live' hown6 hg6
          have S4 := S3.last' x.last
          rw [HSG.out] at S4
          have RA4 := (RA2.out.same (SameK.grown hg6 (own_not S2.out.lown (by decide)))).same ((SameK.setCell (p := ⟨w.heap.size + 2, 8, none⟩) b6 (by decide) (.slice A6 k6 c6)).trans (SameK.setCell (p := ⟨w.heap.size + 2, 10, none⟩) S3.v.blk (by decide) (.int .u64 (x.last : Int))))
          have HL4 := Lib.hid S4
          rw [show out = out ++ (x.recs.take 0).filter (fun r => decide (frm < r.1)) by simp] at HL4
          have HR4 := Lib.hid RA4
          clear S3 S4 RA4 S2 S1 RA2 NS HB2 hown6 hg6 hat6 b6 f8 f10 e8 e10 d8' d8'' hwl hwa hwb hwb2
          generalize hW7 : World.setCell (World.setCell w6 _ _) _ _ = w7
          have HL7 : Hid (RoSt w w7 D a i size (live ++ [x.sg]) x.last A1 c1 A2 c2 A3 c3 A6 c6 (.slice A mo co) (out ++ (x.recs.take 0).filter fun r => decide (frm < r.1))) := by rw [← hW7]; exact HL4
          have HR7 : Hid (RecAt w7 A5 x.recs (.slice A mo co)) := by rw [← hW7]; exact HR4
          clear hW7 HL4 HR4
          go_loopw [20, 24] (fun ov kv wq => ∃ (k : Nat) (A : Option Addr) (m c : Nat), ov = .slice A m c ∧ kv = .int .i64 (k : Int) ∧ k ≤ x.recs.length ∧ Hid (RoSt w wq D a i size (live ++ [x.sg]) x.last A1 c1 A2 c2 A3 c3 A6 c6 (.slice A m c) (out ++ (x.recs.take k).filter fun r => decide (frm < r.1))) ∧ Hid (RecAt wq A5 x.recs (.slice A m c))) (fun _ kv _ => x.recs.length - (intOf kv).toNat)
          case atStart => exact ⟨0, A, mo, co, rfl, rfl, Nat.zero_le _, HL7, HR7⟩
          case round =>
            obtain ⟨k, A, mo, co, rfl, rfl, hk, S, RA⟩ := hrel
            clear HL7 HR7
            by_cases hlt : k < x.recs.length
            · skip
              have hk64 : k < 100000 := by have := hrl.out; omega
              obtain ⟨b, o, rfl, hkb, hvb, hcell⟩ := RA.out (by omega)
              obtain ⟨r0, r1⟩ := hcell k hlt
              have HT : Hid (x.recs.take (k + 1) = x.recs.take k ++ [x.recs[k]]) := by rw [Hid, List.take_add_one, List.getElem?_eq_getElem hlt]; rfl
              have hlen : Hid ((out ++ (x.recs.take k).filter fun r => decide (frm < r.1)).length ≤ 5000000) := by
                have h1 := List.length_filter_le (fun r : Rcd => decide (frm < r.1)) (x.recs.take k)
                rw [List.length_take] at h1
                have h2 := hrl.out
                have h3 := hol.out
                have h4 : live.length * 40000 ≤ 64 * 40000 := Nat.mul_le_mul_right _ (by omega)
                rw [Hid, List.length_append]
                omega
              clear hcell hvb
              generalize x.recs[k] = r at *
              obtain ⟨q, t⟩ := r
              simp only at r0 r1
              by_cases hq : frm < q
              · have hq2 : (frm : Int) < (q : Int) := by omega
                have HF2 : Hid (out ++ (x.recs.take (k + 1)).filter (fun r => decide (frm < r.1)) = (out ++ (x.recs.take k).filter (fun r => decide (frm < r.1))) ++ [(q, t)]) := by rw [Hid, HT.out, List.filter_append, List.append_assoc]; simp [hq]
                generalize hF : out ++ (x.recs.take k).filter (fun r => decide (frm < r.1)) = F at *
                clear hF hq
                have hM1 : Hid (F.length + 1 ≤ maxLen) := by have := hlen.out; simp only [Hid, maxLen]; omega
                have hM2 : Hid ((F.length + 1) * 24 ≤ 140737488355328) := by have := hlen.out; rw [Hid]; omega
                have QA := (Below.refl wr.heap.size wr).alloc (Nat.le_refl _) (.cells #[.int .u64 (q : Int), .string (st t)] 71)
                have SA := Lib.hid (S.out.later QA)
                have RAA := Lib.hid (RA.out.later QA)
                have HBA := Lib.hid SA.out.below.size
                clear QA S RA
                go_wp2_with (at_builtin; refine wpList_append_sl _ rfl (.tmp 144) (.tmp 149) elemRec rfl SA.out.oown (Sl.newrec (S := fun _ => True) _ (q, t) rfl trivial) rfl rfl (rcs_one _) hM1.out hM2.out HBA.out ?_; intro A8 k8 c8 w8 hown8 hg8 hat8)
                have S8 := Lib.hid (SA.out.more hown8 hg8)
                rw [← HF2.out] at S8
                have RA8 := Lib.hid (RAA.out.grown hg8 hat8)
                clear hown8 hg8 hat8
                go_roundw
                case rel => exact ⟨k + 1, A8, k8, c8, rfl, by go_num, by omega, S8, RA8⟩
                case measure => simp [intOf]; omega
              · have hq2 : (q : Int) ≤ (frm : Int) := by omega
                have HF2 : Hid (out ++ (x.recs.take (k + 1)).filter (fun r => decide (frm < r.1)) = out ++ (x.recs.take k).filter (fun r => decide (frm < r.1))) := by rw [Hid, HT.out, List.filter_append]; simp [hq]
                have hq3 : decide (frm < q) = false := decide_eq_false hq
                clear hq
                go_wp2_with fail
                go_roundw
                case rel => exact ⟨k + 1, A, mo, co, rfl, by go_num, by omega, by rw [HF2.out]; exact S, RA⟩
                case measure => simp [intOf]; omega
            · obtain rfl : k = x.recs.length := by omega
              have S5 : Hid (RoSt w wr D a i size (live ++ [x.sg]) x.last A1 c1 A2 c2 A3 c3 A6 c6 (.slice A mo co) (out ++ tkRecs x frm)) := by
                have := S.out
                rw [List.take_length] at this
                exact this
              have hall : ∀ z ∈ wAll D.view a size i, z.at' < i ∧ z.recs.length ≤ 40000 := fun z hz => ⟨(wAll_mem hz).1, wLook_recs HOK.out hs (wAll_mem hz).2⟩
              have CH5 : Hid (ChSt (wAll D.view a size i) frm i (live ++ [x.sg]) x.last (out ++ tkRecs x frm) (wNext (wAll D.view a size i) (live ++ [x.sg]) x.last)) := CH.out.next hall
              have hll5 := CH5.out.len
              have hlx : (live ++ [x.sg]).length = live.length + 1 := by rw [List.length_append, List.length_singleton]
              have HGK : Hid ((gk - 1) + (live ++ [x.sg]).length = i + 1) := by rw [Hid, hlx]; omega
              have HGL : Hid (gk - 1 < gk) := by rw [Hid]; rw [hlx] at hll5; omega
              have HL100 : Hid ((live ++ [x.sg]).length ≤ 100) := by rw [Hid]; omega
              have NX5 : Hid (NxR (nxFrom D.view a size i (live ++ [x.sg]) x.last i) (-1)) := .inl ⟨nxFrom_end, rfl⟩
              have OKC := Lib.hid (OKA.out D (live ++ [x.sg]) x.last HOK.out CH5.out.nd CH5.out.lt CH5.out.last)
              have hwi : IntKind.i64.wrap ((i : Int) - 1) = (i : Int) - 1 := i64_in (by omega) (by omega)
              clear S RA hall CH NA hlx hln hgk hll5 hlt
              generalize x.last = lst at *
              generalize live ++ [x.sg] = lv2 at *
              generalize out ++ tkRecs x frm = out2 at *
              go_wp2_with fail
              obtain ⟨m2, hm2⟩ : ∃ m2, (lst + 1) % U64 = m2 := ⟨_, rfl⟩
              have HM2 := Lib.hid hm2
              have hwr2 : IntKind.u64.wrap ((lst : Int) + 1) = (m2 : Int) := by have := u64_add lst 1; rw [hm2] at this; simpa using this
              clear hm2 hwi
              go_loopw [14, 25] (fun nv iv wq => ∃ (j : Nat) (r : Int), nv = .int .i64 r ∧ iv = .int .i64 ((j : Int) - 1) ∧ j ≤ i ∧ Hid (NxR (nxFrom D.view a size i lv2 lst j) r) ∧ Hid (RoSt w wq D a i size lv2 lst A1 c1 A2 c2 A3 c3 A6 c6 (.slice A mo co) out2)) (fun _ iv _ => (intOf iv + 1).toNat)
              case atStart => exact ⟨i, -1, rfl, rfl, Nat.le_refl _, NX5, S5⟩
              case round =>
                obtain ⟨j, r, rfl, rfl, hj, NX, S⟩ := hrel
                clear NX5 S5
                cases j with
                | zero =>
                  rw [nxFrom_zero] at NX
                  have hneg : ((0 : Nat) : Int) - 1 = -1 := rfl
                  rw [hneg]
                  go_wp2_with fail
                  go_roundg (gk - 1)
                  case measure => exact HGL.out
                  case rel => exact ⟨r, lv2, lst, out2, _, A, mo, co, A6, c6, rfl, rfl, NX, CH5, S, HGK.out⟩
                | succ j =>
                  have hje : ((j + 1 : Nat) : Int) - 1 = (j : Int) := by omega
                  rw [hje]
                  have hwj : IntKind.i64.wrap ((j : Int) - 1) = (j : Int) - 1 := i64_in (by omega) (by omega)
                  have HLK : Hid (Calls Tryz.prog 31 #[.agg (rlC ⟨D, a, i, size, lv2, [], lst, 0⟩ A1 c1 A2 c2 A3 c3 A6 c6), .int .i64 (j : Int)] wr (LkPost (wLook D.view a size j) wr)) := refWLook_any _ _ j wr S.out.v.val OKC.out (by omega)
                  unfold rlC at HLK
                  have d0 : (wr).cell? ⟨w.heap.size + 2, 0, none⟩ = some (.int .i64 D.size) := S.out.v.blk.cell 0
                  have d1 : (wr).cell? ⟨w.heap.size + 2, 1, none⟩ = some (.int .i64 D.limit) := S.out.v.blk.cell 1
                  have d2 : (wr).cell? ⟨w.heap.size + 2, 2, none⟩ = some (.slice A1 D.nv c1) := S.out.v.blk.cell 2
                  have d3 : (wr).cell? ⟨w.heap.size + 2, 3, none⟩ = some (.slice A2 D.ng c2) := S.out.v.blk.cell 3
                  have d4 : (wr).cell? ⟨w.heap.size + 2, 4, none⟩ = some (.slice A3 D.pend.length c3) := S.out.v.blk.cell 4
                  have d5 : (wr).cell? ⟨w.heap.size + 2, 5, none⟩ = some (.int .i64 a) := S.out.v.blk.cell 5
                  have d6 : (wr).cell? ⟨w.heap.size + 2, 6, none⟩ = some (.int .i64 (i : Int)) := S.out.v.blk.cell 6
                  have d7 : (wr).cell? ⟨w.heap.size + 2, 7, none⟩ = some (.int .i64 (size : Int)) := S.out.v.blk.cell 7
                  have d8 : (wr).cell? ⟨w.heap.size + 2, 8, none⟩ = some (.slice A6 lv2.length c6) := S.out.v.blk.cell 8
                  have d9 : (wr).cell? ⟨w.heap.size + 2, 9, none⟩ = some (.string (st [])) := S.out.v.blk.cell 9
                  have d10 : (wr).cell? ⟨w.heap.size + 2, 10, none⟩ = some (.int .u64 (lst : Int)) := S.out.v.blk.cell 10
                  have d11 : (wr).cell? ⟨w.heap.size + 2, 11, none⟩ = some (.int .u64 0) := S.out.v.blk.cell 11
                  go_wp2_with fail
                  refine HLK.out.mono ?_
                  rintro e w1 ⟨hb1, hm⟩
                  have S1 := Lib.hid (S.out.later hb1)
                  have HVL : Hid (RLg w1 (.agg (rlC ⟨D, a, i, size, lv2, [], lst, 0⟩ A1 c1 A2 c2 A3 c3 A6 c6)) ⟨D, a, i, size, lv2, [], lst, 0⟩) := S1.out.v.val
                  unfold rlC at HVL
                  clear HLK S hb1 d0 d1 d2 d3 d4 d5 d6 d7 d8 d9 d10 d11
                  have d0 : (w1).cell? ⟨w.heap.size + 2, 0, none⟩ = some (.int .i64 D.size) := S1.out.v.blk.cell 0
                  have d1 : (w1).cell? ⟨w.heap.size + 2, 1, none⟩ = some (.int .i64 D.limit) := S1.out.v.blk.cell 1
                  have d2 : (w1).cell? ⟨w.heap.size + 2, 2, none⟩ = some (.slice A1 D.nv c1) := S1.out.v.blk.cell 2
                  have d3 : (w1).cell? ⟨w.heap.size + 2, 3, none⟩ = some (.slice A2 D.ng c2) := S1.out.v.blk.cell 3
                  have d4 : (w1).cell? ⟨w.heap.size + 2, 4, none⟩ = some (.slice A3 D.pend.length c3) := S1.out.v.blk.cell 4
                  have d5 : (w1).cell? ⟨w.heap.size + 2, 5, none⟩ = some (.int .i64 a) := S1.out.v.blk.cell 5
                  have d6 : (w1).cell? ⟨w.heap.size + 2, 6, none⟩ = some (.int .i64 (i : Int)) := S1.out.v.blk.cell 6
                  have d7 : (w1).cell? ⟨w.heap.size + 2, 7, none⟩ = some (.int .i64 (size : Int)) := S1.out.v.blk.cell 7
                  have d8 : (w1).cell? ⟨w.heap.size + 2, 8, none⟩ = some (.slice A6 lv2.length c6) := S1.out.v.blk.cell 8
                  have d9 : (w1).cell? ⟨w.heap.size + 2, 9, none⟩ = some (.string (st [])) := S1.out.v.blk.cell 9
                  have d10 : (w1).cell? ⟨w.heap.size + 2, 10, none⟩ = some (.int .u64 (lst : Int)) := S1.out.v.blk.cell 10
                  have d11 : (w1).cell? ⟨w.heap.size + 2, 11, none⟩ = some (.int .u64 0) := S1.out.v.blk.cell 11
                  have hji : j < i := by omega
                  cases hlk : wLook D.view a size j with
                  | none =>
                    rw [hlk] at hm
                    subst hm
                    rw [← nxFrom_none hji hlk] at NX
                    clear hlk
                    go_wp2_with fail
                    go_roundw
                    case rel => exact ⟨j, r, rfl, rfl, by omega, NX, S1⟩
                    case measure => simp [intOf] <;> omega
                  | some p =>
                    obtain ⟨b, rs⟩ := p
                    rw [hlk] at hm
                    obtain ⟨A9, k9, c9, rfl, hro⟩ := hm
                    have HNO := Lib.hid (nxFrom_no (live := lv2) (last := lst) hji hlk)
                    have HYS := Lib.hid (nxFrom_yes (live := lv2) (last := lst) hji hlk)
                    rw [HM2.out] at HNO HYS
                    clear hlk hro
                    by_cases hbm : b = m2
                    · subst hbm
                      have heq : ((b : Int) == (b : Int)) = true := by simp
                      go_wp2_with fail
                      refine (refWUsed_any _ _ j w1 HVL.out HL100.out).mono ?_
                      rintro e w4 ⟨rfl, hb4⟩
                      have S4 := Lib.hid (S1.out.later hb4)
                      clear hb4 S1 HVL d0 d1 d2 d3 d4 d5 d6 d7 d8 d9 d10 d11
                      cases hu : usedL lv2 j with
                      | true =>
                        rw [← HNO.out (.inr hu)] at NX
                        clear hu
                        go_wp2_with fail
                        go_roundw
                        case rel => exact ⟨j, r, rfl, rfl, by omega, NX, S4⟩
                        case measure => simp [intOf] <;> omega
                      | false =>
                        have NX6 : Hid (NxR (nxFrom D.view a size i lv2 lst j) (j : Int)) := by rw [HYS.out (by first | trivial | rfl) hu]; exact .inr ⟨_, rfl, rfl⟩
                        clear hu
                        go_wp2_with fail
                        go_roundw
                        case rel => exact ⟨j, (j:Int), rfl, rfl, by omega, NX6, S4⟩
                        case measure => simp [intOf] <;> omega
                    · have heq : ((b : Int) == (m2 : Int)) = false := by rw [beq_eq_false_iff_ne]; omega
                      have heq2 : ¬ (b : Int) = (m2 : Int) := by omega
                      rw [← HNO.out (.inl hbm)] at NX
                      clear hbm
                      go_wp2_with fail
                      go_roundw
                      case rel => exact ⟨j, r, rfl, rfl, by omega, NX, S1⟩
                      case measure => simp [intOf] <;> omega
end Go.Proofs.YtojlldalhhibmaaGreatDoor

namespace Go.Proofs.YtojlldalhhibmaaGreatDoor
open Go Go.RowKit
set_option linter.unusedVariables false

def plOk (a n size : Int) : Prop := 2 ≤ n ∧ n ≤ 64 ∧ 1 ≤ size ∧ size ≤ 64 ∧ 0 ≤ a ∧ a ≤ 65536 - n * size
theorem mul_in {n size : Int} (h1 : 2 ≤ n) (h2 : n ≤ 64) (h3 : 1 ≤ size) (h4 : size ≤ 64) : 0 ≤ n * size ∧ n * size ≤ 4096 := by
  obtain ⟨n, rfl⟩ := Int.eq_ofNat_of_zero_le (show 0 ≤ n by omega)
  obtain ⟨size, rfl⟩ := Int.eq_ofNat_of_zero_le (show 0 ≤ size by omega)
  have := Nat.mul_le_mul (show n ≤ 64 by omega) (show size ≤ 64 by omega)
  have e : ((n * size : Nat) : Int) = (n : Int) * size := by push_cast; rfl
  omega
theorem plBad {a n size : Int} (h : ¬ plOk a n size) : n < 2 ∨ (¬ n < 2 ∧ 64 < n) ∨ (¬ n < 2 ∧ ¬ 64 < n ∧ size < 1) ∨ (¬ n < 2 ∧ ¬ 64 < n ∧ ¬ size < 1 ∧ 64 < size) ∨ (¬ n < 2 ∧ ¬ 64 < n ∧ ¬ size < 1 ∧ ¬ 64 < size ∧ a < 0) ∨
    (¬ n < 2 ∧ ¬ 64 < n ∧ ¬ size < 1 ∧ ¬ 64 < size ∧ ¬ a < 0 ∧ 65536 - n * size < a) := by
  unfold plOk at h
  by_cases h1 : n < 2
  · exact .inl h1
  by_cases h2 : 64 < n
  · exact .inr (.inl ⟨h1, h2⟩)
  by_cases h3 : size < 1
  · exact .inr (.inr (.inl ⟨h1, h2, h3⟩))
  by_cases h4 : 64 < size
  · exact .inr (.inr (.inr (.inl ⟨h1, h2, h3, h4⟩)))
  by_cases h5 : a < 0
  · exact .inr (.inr (.inr (.inr (.inl ⟨h1, h2, h3, h4, h5⟩))))
  · exact .inr (.inr (.inr (.inr (.inr ⟨h1, h2, h3, h4, h5, by omega⟩))))
set_option maxHeartbeats 4000000 in
set_option maxRecDepth 100000 in
theorem lgopen_bad (dv : Value) (a n size : Int) (frm : Nat) (w : World) (h : ¬ plOk a n size) :
    Calls Tryz.prog 7 #[dv, .int .i64 a, .int .i64 n, .int .i64 size, .int .u64 (frm : Int)] w fun e w' => e = .returned (.tuple #[.pointer none, .slice none 0 0, .int .i64 80]) ∧ w = w' := by
  rcases plBad h with h1 | ⟨h1, h2⟩ | ⟨h1, h2, h3⟩ | ⟨h1, h2, h3, h4⟩ | ⟨h1, h2, h3, h4, h5⟩ | ⟨h1, h2, h3, h4, h5, h6⟩
  all_goals clear h
  case inr.inr.inr.inr.inr =>
    have hm := mul_in (show 2 ≤ n by omega) (show n ≤ 64 by omega) (show 1 ≤ size by omega) (show size ≤ 64 by omega)
    have hw1 : IntKind.i64.wrap (n * size) = n * size := i64_in (by omega) (by omega)
    have hw2 : IntKind.i64.wrap (65536 - n * size) = 65536 - n * size := i64_in (by omega) (by omega)
    go_enter Tryz.func7, Tryz.ntmps7
    go_wp2_with fail
    go_ret3
    exact ⟨rfl, rfl⟩
  all_goals
    go_enter Tryz.func7, Tryz.ntmps7
    go_wp2_with fail
    go_ret3
    exact ⟨rfl, rfl⟩
end Go.Proofs.YtojlldalhhibmaaGreatDoor

namespace Go.Proofs.YtojlldalhhibmaaGreatDoor
open Go Go.RowKit
set_option linter.unusedVariables false

theorem wTrunc_par (l : Wl) (seq : Nat) : (wTrunc l seq).1.a = l.a ∧ (wTrunc l seq).1.n = l.n ∧ (wTrunc l seq).1.size = l.size ∧ (wTrunc l seq).1.D.pend.length ≤ l.D.pend.length := by
  unfold wTrunc
  split
  · exact ⟨rfl, rfl, rfl, Nat.le_refl _⟩
  · exact ⟨rfl, rfl, rfl, Nat.zero_le _⟩
theorem wAppend_par (l : Wl) (ok : l.Ok) (t : List UInt8) : (wAppend l t).1.a = l.a ∧ (wAppend l t).1.n = l.n ∧ (wAppend l t).1.size = l.size ∧ (wAppend l t).1.D.pend.length ≤ l.D.pend.length + 512 * l.size := by
  obtain ⟨q, hq⟩ : ∃ q, q = (l.last + 1) % U64 := ⟨_, rfl⟩
  obtain ⟨head, hh⟩ : ∃ head, head = recB q titleB := ⟨_, rfl⟩
  obtain ⟨b, hb⟩ : ∃ b, b = recB q t := ⟨_, rfl⟩
  by_cases hlong : 32768 < t.length ∨ 512 * l.size < head.length + b.length
  · rw [wAppend_long hq hh hb hlong]; exact ⟨rfl, rfl, rfl, Nat.le_add_right _ _⟩
  have key : ∀ {L : List Sg} {s : List UInt8} {i : Nat} {fr : Bool}, ApC l q head b L s i fr → (wAppend l t).1.a = l.a ∧ (wAppend l t).1.n = l.n ∧ (wAppend l t).1.size = l.size ∧ (wAppend l t).1.D.pend.length ≤ l.D.pend.length + 512 * l.size := by
    intro L s i fr c
    obtain ⟨r, hr⟩ : ∃ r, wPut l.D (l.a + (i : Int) * l.size) (s ++ b) (s ++ b).length (apFrom l fr / 512) = r := ⟨_, rfl⟩
    have hp : r.1.pend.length ≤ l.D.pend.length + 512 * l.size := by
      have h1 := wPut_pend2 (l.a + (i : Int) * l.size) (s ++ b) (s ++ b).length (apFrom l fr / 512) l.D
      have h2 := (c.lens (t := t) ok hlong).1
      rw [hr] at h1
      omega
    by_cases h0 : r.2 = 0
    · rw [wAppend_ok hq hh hb hlong c hr h0]
      exact ⟨rfl, rfl, rfl, hp⟩
    · rw [wAppend_no hq hh hb hlong c hr h0]
      cases fr with
      | true => exact ⟨rfl, rfl, rfl, Nat.zero_le _⟩
      | false => exact ⟨rfl, rfl, rfl, hp⟩
  by_cases hfr : l.stream = [] ∨ 512 * l.size < l.stream.length + b.length
  · cases hw : wFresh l.live l.n with
    | none => rw [wAppend_full hq hh hb hlong hfr hw]; exact ⟨rfl, rfl, rfl, Nat.le_add_right _ _⟩
    | some i => exact key (L := l.live ++ [⟨i, q, 0⟩]) (s := head) (i := i) (fr := true) ⟨fun _ => ⟨hfr, hw, rfl, rfl⟩, fun e => (by cases e)⟩
  · exact key (L := l.live) (s := l.stream) (fr := false) ⟨fun e => (by cases e), fun _ => ⟨hfr, rfl, rfl, rfl⟩⟩
abbrev lvKs : List (Option TypeId) := [some 43, some 134, some 111, some 89]
abbrev kyKs : List (Option TypeId) := [some 23, some 43, some 134, some 111, some 89]
section
variable {w W W' : World} {gl gk g : Nat} {h h' : Zn} {l l' : Wl} {D : Dsk} {pl : Array Value} {A1 A2 A3 A4 B1 B2 B3 B4 : Option Addr} {c1 c2 c3 c4 d1 d2 d3 d4 : Nat} {ks : List (Option TypeId)}
theorem Sv.anew {w w1 w2 : World} {v : Value} {l : List (Int × Int)} (h : Sv (fun b => b < w.heap.size) w1 v l) (h1 : Below w.heap.size w w1) (h2 : Below w.heap.size w w2) : Sv (fun b => b < w.heap.size) w2 v l :=
  Sl.keep h fun b o hs => World.cell?_of_block ((h2.block b hs).trans (h1.block b hs).symm)
theorem Lv.same (v : Lv W g l A1 c1 A2 c2 A3 c3 A4 c4) (hs : SameK lvKs W W') : Lv W' g l A1 c1 A2 c2 A3 c3 A4 c4 := v.at (hs.less (by decide)) (v.blk.sameK hs (by decide))
/-- The document's log in the law: its place, the law's argument. -/
structure Ky (w W : World) (pl : Array Value) (gk : Nat) (l : Wl) (A1 : Option Addr) (c1 : Nat) (A2 : Option Addr) (c2 : Nat) (A3 : Option Addr) (c3 : Nat) (A4 : Option Addr) (c4 : Nat) : Prop where
  kv : Lv W gk l A1 c1 A2 c2 A3 c3 A4 c4
  k0 : w.heap.size ≤ gk
  pb : Blk W w.heap.size 23 pl
theorem Ky.same (k : Ky w W pl gk l A1 c1 A2 c2 A3 c3 A4 c4) (hs : SameK kyKs W W') : Ky w W' pl gk l A1 c1 A2 c2 A3 c3 A4 c4 := ⟨k.kv.same (hs.less (by decide)), k.k0, k.pb.sameK hs (by decide)⟩
theorem Ky.later (k : Ky w W pl gk l A1 c1 A2 c2 A3 c3 A4 c4) (hb : Below W.heap.size W W') : Ky w W' pl gk l A1 c1 A2 c2 A3 c3 A4 c4 := ⟨k.kv.later hb, k.k0, k.pb.later hb⟩
theorem Ky.ne (k : Ky w W pl gk l A1 c1 A2 c2 A3 c3 A4 c4) : w.heap.size ≠ gk := k.pb.ne k.kv.blk (by decide)
/-- The variable is put anew. -/
theorem Ky.all (k : Ky w W pl gk l A1 c1 A2 c2 A3 c3 A4 c4) (hD : RDd W (.agg #[.int .i64 l'.D.size, .int .i64 l'.D.limit, .slice B1 l'.D.nv d1, .slice B2 l'.D.ng d2, .slice B3 l'.D.pend.length d3]) l'.D) (hG : Rgr W (.slice B4 l'.live.length d4) l'.live) :
    Ky w (put12 W gk (.int .i64 l'.D.size) (.int .i64 l'.D.limit) (.slice B1 l'.D.nv d1) (.slice B2 l'.D.ng d2) (.slice B3 l'.D.pend.length d3) (.int .i64 l'.a) (.int .i64 (l'.n : Int)) (.int .i64 (l'.size : Int)) (.slice B4 l'.live.length d4) (.string (st l'.stream)) (.int .u64 (l'.last : Int)) (.int .u64 (l'.synced : Int))) pl gk l' B1 d1 B2 d2 B3 d3 B4 d4 :=
  ⟨put12_lv k.kv hD hG, k.k0, away12_blk k.pb k.ne _ _ _ _ _ _ _ _ _ _ _ _⟩
theorem Ky.setD (k : Ky w W pl gk l A1 c1 A2 c2 A3 c3 A4 c4) {E : Dsk} (hd : RDd W (.agg #[.int .i64 E.size, .int .i64 E.limit, .slice B1 E.nv d1, .slice B2 E.ng d2, .slice B3 E.pend.length d3]) E) :
    Ky w (((((W.setCell ⟨gk, 0, none⟩ (.int .i64 E.size)).setCell ⟨gk, 1, none⟩ (.int .i64 E.limit)).setCell ⟨gk, 2, none⟩ (.slice B1 E.nv d1)).setCell ⟨gk, 3, none⟩ (.slice B2 E.ng d2)).setCell ⟨gk, 4, none⟩ (.slice B3 E.pend.length d3)) pl gk { l with D := E } B1 d1 B2 d2 B3 d3 A4 c4 :=
  ⟨k.kv.setD hd, k.k0, k.pb.away5 k.ne _ _ _ _ _⟩
theorem RDd.limit8 {a b v1 v2 v3 : Value} {D : Dsk} (h : RDd W (.agg #[a, b, v1, v2, v3]) D) (n : Int) : RDd W (.agg #[a, .int .i64 n, v1, v2, v3]) { D with limit := n } := by
  obtain ⟨R, ⟨u1, u2, u3, he, h1, h2, h3⟩, hi⟩ := h
  injection he with he
  have := congrArg Array.toList he
  simp only [List.cons.injEq] at this
  obtain ⟨rfl, rfl, rfl, rfl, rfl, -⟩ := this
  exact ⟨{ R with limit := n }, ⟨v1, v2, v3, rfl, h1, h2, h3⟩, ⟨hi.size, rfl, hi.view, hi.ground, hi.pend⟩⟩
theorem Ky.limit (k : Ky w W pl gk l A1 c1 A2 c2 A3 c3 A4 c4) (n : Int) : Ky w (W.setCell ⟨gk, 1, none⟩ (.int .i64 n)) pl gk { l with D := { l.D with limit := n } } A1 c1 A2 c2 A3 c3 A4 c4 := by
  have hs : SameK rlKs W (W.setCell ⟨gk, 1, none⟩ (.int .i64 n)) := SameK.setCell (p := ⟨gk, 1, none⟩) k.kv.blk (by decide) _
  exact ⟨⟨k.kv.blk.put 1 _, (k.kv.rd.limit8 n).same (hs.less (by decide)), KSl.same k.kv.rg hs (by decide)⟩, k.k0, k.pb.other k.ne _ _⟩
theorem Lp.same (p : Lp w W gl h l) (hs : SameK (some 75 :: lgKs) W W') (hb : Below w.heap.size w W') : Lp w W' gl h l := by
  obtain ⟨lv, sv, g⟩ := p.lg
  have hk : SameK lgKs W W' := hs.less (by decide)
  have dk := g.dk.same hk.dk
  exact ⟨⟨dk, p.dp.new, hb⟩, ⟨lv, sv, dk, g.lb.sameK hs (by decide), KSl.same g.live hk (by decide), g.str.same hk (by decide)⟩, p.gn, p.ok⟩
theorem Dp.same (d : Dp w W h D) (hs : SameK dkKs W W') (hb : Below w.heap.size w W') : Dp w W' h D := ⟨d.dk.same hs, d.new, hb⟩
/-- A call on the program's log leaves blocks of other kinds. -/
theorem Lp.keeps (p : Lp w W gl h l) (m : Mtp h gl W h' W') (hk : some 69 ∉ ks) (h0 : none ∉ ks) (hp : some 106 ∉ ks) (hl : some 75 ∉ ks) : SameK ks W W' := by
  obtain ⟨lv, sv, g⟩ := p.lg
  exact m.sameL g.dk g.lb hk h0 hp hl
/-- Where the document's variable is put, the program's log stays. -/
theorem Ky.gone (k : Ky w W pl gk l A1 c1 A2 c2 A3 c3 A4 c4) (hk : some 43 ∉ ks) (x0 x1 x2 x3 x4 x5 x6 x7 x8 x9 x10 x11 : Value) : SameK ks W (put12 W gk x0 x1 x2 x3 x4 x5 x6 x7 x8 x9 x10 x11) := by
  have hb : Blk W gk 43 #[_, _, _, _, _, _, _, _, _, _, _, _] := k.kv.blk
  exact SameK.puts12 hb hk _ _ _ _ _ _ _ _ _ _ _ _
theorem Ky.goneD (k : Ky w W pl gk l A1 c1 A2 c2 A3 c3 A4 c4) (hk : some 43 ∉ ks) (x y z u v : Value) : SameK ks W (((((W.setCell ⟨gk, 0, none⟩ x).setCell ⟨gk, 1, none⟩ y).setCell ⟨gk, 2, none⟩ z).setCell ⟨gk, 3, none⟩ u).setCell ⟨gk, 4, none⟩ v) := SameK.puts5 k.kv.blk hk _ _ _ _ _
theorem Lp.stp {D' : Dsk} (p : Lp w W gl h l) (k : Dk W' h' D') (s : Stp h W h' W') (ok : D'.Ok) : Lp w W' gl h' { l with D := D' } := by
  obtain ⟨lv, sv, g⟩ := p.lg
  exact ⟨p.dp.stp s k, ⟨lv, sv, g.stp k s⟩, p.gn, p.ok.disk ok⟩
theorem ltrunc_lp (p : Lp w W gl h l) (seq : Nat) (hp : l.D.pend.length ≤ 700000) {pg : Nat} (hpg : h.g = pg) :
    Calls Tryz.prog 14 #[.pointer (some ⟨gl, 0, none⟩), .int .u64 (seq : Int)] W fun e W' => e = .returned (.int .i64 ((wTrunc l seq).2 : Int)) ∧ ∃ h', Lp w W' gl h' (wTrunc l seq).1 ∧ h'.g = pg ∧ Mtp h gl W h' W' := by
  subst hpg
  refine (lgtrunc_any h l gl seq W p.lg p.ok hp).mono ?_
  rintro e W' ⟨he, h', h2, h3⟩
  refine ⟨he, h', ⟨?_, h2, p.gn, p.ok.trunc seq⟩, h3.g, h3⟩
  obtain ⟨_, _, g⟩ := h2
  exact p.dp.mtp p.gn h3 g.dk
/-- What the numbers are. -/
structure LxP (l : Wl) (a : Int) (n size i : Nat) : Prop where
  a : l.a = a
  n : l.n = n
  size : l.size = size
  pend : l.D.pend.length ≤ 5000 * i
theorem LxP.append {a : Int} {n size i : Nat} (p : LxP l a n size i) (ok : l.Ok) (hs : size ≤ 4) (t : List UInt8) : LxP (wAppend l t).1 a n size (i + 1) := by
  obtain ⟨h1, h2, h3, h4⟩ := wAppend_par l ok t
  have h5 := p.size
  have h6 := p.pend
  exact ⟨h1.trans p.a, h2.trans p.n, h3.trans p.size, by omega⟩
theorem LxP.trunc {a : Int} {n size i : Nat} (p : LxP l a n size i) (seq : Nat) : LxP (wTrunc l seq).1 a n size (i + 1) := by
  obtain ⟨h1, h2, h3, h4⟩ := wTrunc_par l seq
  have h6 := p.pend
  exact ⟨h1.trans p.a, h2.trans p.n, h3.trans p.size, by omega⟩
theorem LxP.sync {a : Int} {n size i : Nat} (p : LxP l a n size i) : LxP l.sync a n size (i + 1) := ⟨p.a, p.n, p.size, Nat.zero_le _⟩
theorem LxP.limit {a : Int} {n size i : Nat} (p : LxP l a n size i) (m : Int) : LxP { l with D := { l.D with limit := m } } a n size (i + 1) := ⟨p.a, p.n, p.size, by have := p.pend; show l.D.pend.length ≤ _; omega⟩
theorem LxP.stay {a : Int} {n size i : Nat} (p : LxP l a n size i) : LxP l a n size (i + 1) := ⟨p.a, p.n, p.size, by have := p.pend; omega⟩
theorem LxP.opened {D : Dsk} {a : Int} {n size frm i : Nat} (hok : D.Ok) (hs : size ≤ 64) (hf : frm < U64) : LxP (wOpen D a n size frm).1 a n size i := ⟨rfl, rfl, rfl, by rw [wOpen_pend hok hs hf]; exact Nat.zero_le _⟩
end

set_option maxHeartbeats 1000000 in
theorem rdnew_bad8 (n : Int) (w : World) (h : n < 1 ∨ 65536 < n) :
    Calls Tryz.prog 5 #[.int .i64 n] w fun e w' => e = .returned (.tuple #[.agg #[.int .i64 0, .int .i64 0, .slice none 0 0, .slice none 0 0, .slice none 0 0], .int .i64 60]) ∧ Below w.heap.size w w' := by
  rcases Decidable.em (n < 1) with h0 | h0
  case' inl => have hx := h0
  case' inr => have hx : 65536 < n := h.resolve_left h0
  all_goals
    clear h
    go_enter Tryz.func5, Tryz.ntmps5
    go_wp2_with fail
    exact bodyPost_ret (results_cell2 rfl _ _ w.heap.size rfl (Blk.new _ _ _) rdiskTy) rfl ⟨rfl, (Below.refl w.heap.size w).alloc (Nat.le_refl _) (.cells #[.int .i64 0, .int .i64 0, .slice none 0 0, .slice none 0 0, .slice none 0 0] 33)⟩
set_option maxHeartbeats 4000000 in
set_option maxRecDepth 100000 in
theorem refWOpen_bad (v : Value) (D : Dsk) (a n size : Int) (frm : Nat) (w : World) (hr : RDd w v D) (h : ¬ plOk a n size) :
    Calls Tryz.prog 8 #[v, .int .i64 a, .int .i64 n, .int .i64 size, .int .u64 (frm : Int)] w fun e w' => e = .returned (.tuple #[.agg zlog, .slice none 0 0, .int .i64 80]) ∧ Below w.heap.size w w' := by
  obtain ⟨A1, c1, A2, c2, A3, c3, rfl⟩ := hr.shape
  rcases plBad h with h1 | ⟨h1, h2⟩ | ⟨h1, h2, h3⟩ | ⟨h1, h2, h3, h4⟩ | ⟨h1, h2, h3, h4, h5⟩ | ⟨h1, h2, h3, h4, h5, h6⟩
  all_goals clear h hr
  case' inr.inr.inr.inr.inr =>
    have hm := mul_in (n := n) (size := size) (by omega) (by omega) (by omega) (by omega)
    have hw1 : IntKind.i64.wrap (n * size) = n * size := i64_in (by omega) (by omega)
    have hw2 : IntKind.i64.wrap (65536 - n * size) = 65536 - n * size := i64_in (by omega) (by omega)
    clear hm
  all_goals
    have QB := ((Below.refl w.heap.size w).alloc (Nat.le_refl _) (.cells #[.int .i64 D.size, .int .i64 D.limit, .slice A1 D.nv c1, .slice A2 D.ng c2, .slice A3 D.pend.length c3] 33)).alloc (by simp) (.cells zlog 43)
    have BZ : Blk ((w.alloc (.cells #[.int .i64 D.size, .int .i64 D.limit, .slice A1 D.nv c1, .slice A2 D.ng c2, .slice A3 D.pend.length c3] 33)).alloc (.cells zlog 43)) (w.heap.size + 1) 43 zlog := by
      have := Blk.new (w.alloc (.cells #[.int .i64 D.size, .int .i64 D.limit, .slice A1 D.nv c1, .slice A2 D.ng c2, .slice A3 D.pend.length c3] 33)) 43 zlog
      simpa using this
    have QB := Lib.hid QB
    have BZ := Lib.hid BZ
    go_enter Tryz.func8, Tryz.ntmps8
    go_wp2_with fail
    exact bodyPost_ret (results_cell3 rfl _ _ (w.heap.size + 1) rfl BZ.out logTy) rfl ⟨rfl, QB.out⟩
end Go.Proofs.YtojlldalhhibmaaGreatDoor
