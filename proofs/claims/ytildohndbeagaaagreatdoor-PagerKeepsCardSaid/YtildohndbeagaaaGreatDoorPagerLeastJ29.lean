/- What the proof of PagerLeast needs, part 29. -/
import Derived.Test.YtildohndbeagaaaGreatDoorPagerLeastJ27
import Derived.Test.YtildohndbeagaaaGreatDoorPagerLeastJ28

namespace Go.Proofs.YtildohndbeagaaaGreatDoor
open Go Go.RowKit
set_option linter.unusedVariables false

def PmPost (Z : Pz) (P : Pgr) (tag : Nat) (k : Int) (w : World) (e : Ending) (w' : World) : Prop :=
  e = .returned (.int .i64 ((P.steps tag k).err : Nat)) ∧ ∃ Z', Pg w' Z' (P.steps tag k).P ∧ Ptp Z w Z' w'
set_option maxHeartbeats 1000000 in
theorem pcommit_any (Z : Pz) (P : Pgr) (tag : Nat) (w : World) (hT : TabOk w) (hB : BitsOk w) (hp : Pg w Z P) (hok : P.D.Ok) (h2 : 2 ≤ P.n) (h256 : P.n ≤ 256) (htb : TbOk P.n P.tb) (hwl : ∀ x b, P.wr x = some b → b.length ≤ 2048) (ha0 : 0 ≤ P.a) (ha1 : P.a ≤ 65534)
    (hl0 : 0 ≤ P.last) (hl1 : P.last ≤ 1) (hnum : P.num < U64) (htag : tag < U64) (hz0 : ¬ Z.has 0) (hwrs : ∀ p ∈ P.D.pend, ∃ a b, p = .wr a b) (hpe : P.D.pend.length ≤ 100000) :
    Calls Tryz.prog 23 #[.pointer (some ⟨Z.g, 0, none⟩), .int .u64 (tag : Int)] w (PmPost Z P tag 1073741824 w) := by
  have HC := Lib.hid (psteps_any Z P tag 1073741824 w hT hB hp hok h2 h256 htb hwl ha0 ha1 hl0 hl1 hnum htag (by unfold InI; omega) hz0 hwrs hpe)
  clear hT hB hp hok htb hwl hnum htag hz0 hwrs
  go_enter Tryz.func23, Tryz.ntmps23
  go_wp2_with fail
  refine HC.out.mono ?_
  rintro e w1 ⟨rfl, hh⟩
  have HH := Lib.hid hh
  clear hh
  go_wp2_with fail
  go_ret
  exact ⟨rfl, HH.out⟩

section
variable {P : Pgr} {c : Int → List UInt8}
theorem Pk.a1 (h : Pk P c) : P.a ≤ 65534 := by have := h.kp.mj.a1; have := h.kp.mj.still.ok.size; omega
theorem Pk.l01 (h : Pk P c) : 0 ≤ P.last ∧ P.last ≤ 1 := by have := h.kp.mj.mi.l01; omega
theorem Pk.stored (h : Pk P c) : Stored P.D P.a P.tb c := fun i p l hi => by
  obtain ⟨h1, h2⟩ := h.kp.cont i p l hi
  have h3 := h.kp.tok.row i p l hi
  have := h.kp.n256
  exact ⟨by omega, h3.2, h1, h2⟩
theorem Pk.put (h : Pk P c) {x : Int} {b : List UInt8} (h0 : 0 ≤ x) (h1 : x < 90) (hb : b.length ≤ 2048) : Pk (P.put x b) c := by
  refine ⟨h.kp, fun y hy => ?_, fun y b' hy => ?_, fun y hy => ?_⟩
  · have hy : ((P.wr.put x b) y).isSome = true := hy
    unfold SF.put at hy
    split at hy
    · omega
    · exact h.w90 y hy
  · have hy : (P.wr.put x b) y = some b' := hy
    unfold SF.put at hy
    split at hy
    · simp only [Option.some.injEq] at hy
      rw [← hy]; exact hb
    · exact h.wlen y b' hy
  · have hy : gnPut P.gn x false y = true := hy
    unfold gnPut at hy
    split at hy
    · cases hy
    · exact h.g90 y hy
theorem pgWhy_zero {x : Int} {b : List UInt8} (h : pgWhy x b = 0) : 0 ≤ x ∧ x < 90 ∧ b.length ≤ 2048 := by
  unfold pgWhy at h
  split at h
  · cases h
  · split at h
    · cases h
    · omega
theorem Pk.write (h : Pk P c) (x : Int) (b : List UInt8) : Pk (P.write x b) c := by
  unfold Pgr.write
  split
  · rename_i hw
    have := pgWhy_zero hw
    exact h.put this.1 this.2.1 this.2.2
  · exact h
theorem Pk.has90 (h : Pk P c) {x : Int} (hx : P.has x = true) : 0 ≤ x ∧ x < 90 := by
  unfold Pgr.has at hx
  rw [Bool.or_eq_true, Bool.and_eq_true] at hx
  rcases hx with hx | ⟨hx, _⟩
  · exact h.w90 x hx
  · exact h.kp.tok.in90 x hx
theorem Pk.free (h : Pk P c) (x : Int) : Pk (P.free x) c := by
  unfold Pgr.free
  split
  · rename_i hh
    have h9 := h.has90 hh
    refine ⟨h.kp, fun y hy => ?_, fun y b' hy => ?_, fun y hy => ?_⟩
    · have hy : ((P.wr.del x) y).isSome = true := hy
      unfold SF.del at hy
      split at hy
      · cases hy
      · exact h.w90 y hy
    · have hy : (P.wr.del x) y = some b' := hy
      unfold SF.del at hy
      split at hy
      · cases hy
      · exact h.wlen y b' hy
    · have hy : gnPut P.gn x true y = true := hy
      unfold gnPut at hy
      split at hy
      · omega
      · exact h.g90 y hy
  · exact h
theorem Pk.drop (h : Pk P c) : Pk P.drop c := ⟨h.kp, fun x hx => (by cases hx), fun x b hx => (by cases hx), fun x hx => (by cases hx)⟩
theorem Pk.least_lt {i : Nat} (h : P.least = some i) : i < 90 ∧ P.has (i : Int) = false := by
  unfold Pgr.least at h
  have h1 := List.mem_of_find?_eq_some h
  have h2 := List.find?_some h
  rw [List.mem_range] at h1
  exact ⟨h1, by simpa using h2⟩
theorem Pk.alloc (h : Pk P c) (b : List UInt8) : Pk (P.alloc b).1 c := by
  unfold Pgr.alloc
  split
  · exact h
  · rename_i hb
    cases hl : P.least with
    | none => exact h
    | some i =>
      have := (Pk.least_lt hl).1
      exact h.put (by omega) (by omega) (by omega)
theorem Kp.toPk {D : Dsk} {a : Int} {n num : Nat} {last : Int} {tag : Nat} {tb : TF} (h : Kp D a n num last tag tb c) : Pk (pgNew D a n num last (tag, tb)) c :=
  ⟨h, fun x hx => (by cases hx), fun x b hx => (by cases hx), fun x hx => (by cases hx)⟩
end

/-- A pager of the law's own. -/
structure Px (w W : World) (Z : Pz) (P : Pgr) (c : Int → List UInt8) : Prop where
  pg : Pg W Z P
  pk : Pk P c
  new : ∀ b, Z.has b → w.heap.size ≤ b
  below : Below w.heap.size w W
  num : P.num ≤ 100000
section
variable {w W W' : World} {Z Z' : Pz} {P P' : Pgr} {c c' : Int → List UInt8}
theorem Px.later (p : Px w W Z P c) (hb : Below W.heap.size W W') : Px w W' Z P c := ⟨p.pg.later hb, p.pk, p.new, p.below.trans (hb.mono p.below.size), p.num⟩
theorem Px.ptp (p : Px w W Z P c) (s : Ptp Z W Z' W') (k : Pg W' Z' P') (pk : Pk P' c') (hn : P'.num ≤ 100000) : Px w W' Z' P' c' :=
  ⟨k, pk, fun b hb => (s.has b hb).elim (p.new b) (fun h => Nat.le_trans p.below.size h), Turn.below p.below s.turn p.below.size p.new, hn⟩
theorem Px.z0 (p : Px w W Z P c) (h : 0 < w.heap.size) : ¬ Z.has 0 := fun e => by have := p.new 0 e; omega
theorem write_num (P : Pgr) (x : Int) (b : List UInt8) : (P.write x b).num = P.num := by unfold Pgr.write; split <;> rfl
theorem free_num (P : Pgr) (x : Int) : (P.free x).num = P.num := by unfold Pgr.free; split <;> rfl
theorem alloc_num (P : Pgr) (b : List UInt8) : (P.alloc b).1.num = P.num := by
  unfold Pgr.alloc
  split
  · rfl
  · cases P.least <;> rfl
theorem px_write (p : Px w W Z P c) (x : Int) (S : Nat → Prop) (v0 : Value) (b : List UInt8) (hx : InI x) (hb : Bs S W v0 b) (hbl : b.length ≤ 1099511627776) {g : Nat} (hg : Z.g = g) :
    Calls Tryz.prog 29 #[.pointer (some ⟨g, 0, none⟩), .int .i64 x, v0] W fun e W' => e = .returned (.int .i64 (pgWhy x b : Int)) ∧ Px w W' Z (P.write x b) c ∧ Ptp Z W Z W' := by
  subst hg
  refine (pwrite_any Z P x S v0 b W p.pg hx hb hbl).mono ?_
  rintro e W' ⟨he, h1, h2⟩
  exact ⟨he, p.ptp h2 h1 (p.pk.write x b) (by rw [write_num]; exact p.num), h2⟩
theorem px_free (p : Px w W Z P c) (x : Int) (hx : InI x) {g : Nat} (hg : Z.g = g) :
    Calls Tryz.prog 37 #[.pointer (some ⟨g, 0, none⟩), .int .i64 x] W fun e W' => e = .returned (.int .i64 (if P.has x then 0 else 131)) ∧ Px w W' Z (P.free x) c ∧ Ptp Z W Z W' := by
  subst hg
  refine (pfree_any Z P x W p.pg hx).mono ?_
  rintro e W' ⟨he, h1, h2⟩
  exact ⟨he, p.ptp h2 h1 (p.pk.free x) (by rw [free_num]; exact p.num), h2⟩
theorem px_alloc (p : Px w W Z P c) (S : Nat → Prop) (v0 : Value) (b : List UInt8) (hb : Bs S W v0 b) (hbl : b.length ≤ 1099511627776) {g : Nat} (hg : Z.g = g) :
    Calls Tryz.prog 27 #[.pointer (some ⟨g, 0, none⟩), v0] W fun e W' => e = .returned (.tuple #[.int .i64 ((P.alloc b).2.1 : Int), .int .i64 ((P.alloc b).2.2 : Int)]) ∧ Px w W' Z (P.alloc b).1 c ∧ Ptp Z W Z W' := by
  subst hg
  refine (palloc_any Z P S v0 b W p.pg hb hbl).mono ?_
  rintro e W' ⟨he, h1, h2⟩
  exact ⟨he, p.ptp h2 h1 (p.pk.alloc b) (by rw [alloc_num]; exact p.num), h2⟩
theorem px_drop (p : Px w W Z P c) {g : Nat} (hg : Z.g = g) :
    Calls Tryz.prog 39 #[.pointer (some ⟨g, 0, none⟩)] W fun e W' => e = .returned (.tuple #[]) ∧ Px w W' Z P.drop c ∧ Ptp Z W Z W' := by
  subst hg
  refine (pdrop_any Z P W p.pg).mono ?_
  rintro e W' ⟨he, h1, h2⟩
  exact ⟨he, p.ptp h2 h1 p.pk.drop p.num, h2⟩
theorem px_read (p : Px w W Z P c) (x : Int) (hx : InI x) {g : Nat} (hg : Z.g = g) :
    Calls Tryz.prog 28 #[.pointer (some ⟨g, 0, none⟩), .int .i64 x] W fun e W' => RdPost P c x W e W' := by
  subst hg
  exact pread_any Z P c x W p.pg p.pk.kp.mj.still.ok p.pk.stored p.pk.wlen p.pk.kp.mj.a0 (by have := p.pk.a1; omega) hx
theorem px_pages (p : Px w W Z P c) {g : Nat} (hg : Z.g = g) :
    Calls Tryz.prog 18 #[.pointer (some ⟨g, 0, none⟩)] W fun e W' => ∃ v, e = .returned v ∧ Ow 3 W' W.heap.size v (il P.pages) ∧ Below W.heap.size W W' := by
  subst hg
  exact ppages_any Z P W p.pg
theorem px_tag (p : Px w W Z P c) {g : Nat} (hg : Z.g = g) :
    Calls Tryz.prog 17 #[.pointer (some ⟨g, 0, none⟩)] W fun e W' => e = .returned (.int .u64 (P.tag : Int)) ∧ W = W' := by
  subst hg
  exact ptag_any Z P W p.pg
/-- A commit: it is refused, or all of it is done. -/
def CmPost (w W : World) (Z : Pz) (P : Pgr) (c : Int → List UInt8) (tag : Nat) (e : Ending) (W' : World) : Prop :=
  (P.next = none ∧ e = .returned (.int .i64 133) ∧ ∃ Z', Px w W' Z' P c ∧ Z'.g = Z.g ∧ Z'.h.g = Z.h.g ∧ Ptp Z W Z' W') ∨
  (∃ t D' Z', P.next = some t ∧ e = .returned (.int .i64 0) ∧ Px w W' Z' ⟨D', P.a, P.n, P.num + 1, 1 - P.last, tag, t, fun _ => none, fun _ => false⟩ (newC P c) ∧ Z'.g = Z.g ∧ Z'.h.g = Z.h.g ∧ Ptp Z W Z' W')
theorem px_commit (p : Px w W Z P c) (tag : Nat) (htag : tag < U64) (hn : P.num + 1 ≤ 100000) (hT : TabOk W) (hB : BitsOk W) (h0 : 0 < w.heap.size) {g : Nat} (hg : Z.g = g) :
    Calls Tryz.prog 23 #[.pointer (some ⟨g, 0, none⟩), .int .u64 (tag : Int)] W (CmPost w W Z P c tag) := by
  subst hg
  have hpe := p.pk.kp.mj.still.pend
  have hl := p.pk.l01
  have hnu : P.num + 1 < U64 := by have := hn; unfold U64; omega
  refine (pcommit_any Z P tag W hT hB p.pg p.pk.kp.mj.still.ok p.pk.kp.n2 p.pk.kp.n256 p.pk.kp.tok p.pk.wlen p.pk.kp.mj.a0 p.pk.a1 hl.1 hl.2 (by omega) htag (p.z0 h0) (by rw [hpe]; simp) (by rw [hpe]; simp)).mono ?_
  rintro e W' ⟨he, Z', h1, h2⟩
  cases hnx : P.next with
  | none =>
    have hs : P.steps tag 1073741824 = ⟨P, false, 133⟩ := by unfold Pgr.steps; rw [hnx]
    rw [hs] at he h1
    exact .inl ⟨hnx, he, Z', p.ptp h2 h1 p.pk p.num, h2.g, h2.hg, h2⟩
  | some t =>
    have ho := p.pk.steps hnu htag hnx 1073741824
    have hd := p.pk.all hnu htag hnx (k := 1073741824) (by omega) (by omega)
    obtain ⟨D', h3, h4, h5⟩ := ho.done hd
    rw [ho.err] at he
    rw [h3] at h1
    exact .inr ⟨t, D', Z', hnx, he, p.ptp h2 h1 ⟨h4, fun x hx => (by cases hx), fun x b hx => (by cases hx), fun x hx => (by cases hx)⟩ (by simpa using hn), h2.g, h2.hg, h2⟩
/-- A crash, with nothing pending. -/
theorem still_crash {D : Dsk} (h : Still D) (l : List (Int × Int)) : D.crash l = D := by
  obtain ⟨h1, h2, h3, _, _, _⟩ := h
  obtain ⟨sz, lm, v, nv, g, ng, pd⟩ := D
  simp only at h1 h2 h3
  subst h1 h2 h3
  rfl
/-- A pager that is opened on a disk that keeps one. -/
theorem px_open {h : Zn} {D : Dsk} {a : Int} {n num : Nat} {last : Int} {tag : Nat} {tb : TF} (hd : Dp w W h D) (hk : Kp D a n num last tag tb c) (hn : num ≤ 100000) {pg : Nat} (hg : h.g = pg) :
    Calls Tryz.prog 10 #[.pointer (some ⟨pg, 0, none⟩), .int .i64 a, .int .i64 (n : Int)] W fun e W' => ∃ Z, e = .returned (.tuple #[.pointer (some ⟨Z.g, 0, none⟩), .int .i64 0]) ∧ Px w W' Z (pgNew D a n num last (tag, tb)) c ∧ Z.h = h ∧ Below W.heap.size W W' := by
  subst hg
  have hfit := hk.fit
  have hsz := hk.mj.still.ok.size
  have h2 := hk.n2
  have h256 := hk.n256
  refine (popen_any h D a n W hd.dk hk.mj.still.ok ⟨by omega, by omega, hk.mj.a0, by omega⟩).mono ?_
  rintro e W' ⟨hc, hb⟩
  rcases hc with ⟨P, Z, ho, he, hp, hz, _, hnew⟩ | ⟨ho, _⟩
  · rw [hk.open] at ho
    simp only [Option.some.injEq] at ho
    subst ho
    exact ⟨Z, he, ⟨hp, hk.toPk, fun b hb' => (hnew b hb').elim (hd.new b) (fun h => Nat.le_trans hd.below.size h), hd.below.trans (hb.mono hd.below.size), hn⟩, hz, hb⟩
  · rw [hk.open] at ho
    cases ho
end

set_option maxHeartbeats 1000000 in
theorem fresh13_any (n : Nat) (c : Int → List UInt8) (w : World) (h2 : 2 ≤ n) (h256 : n ≤ 256) :
    Calls Tryz.prog 19 #[.int .i64 (n : Int)] w fun e w' => ∃ pd Z, e = .returned (.tuple #[.pointer (some ⟨pd, 0, none⟩), .pointer (some ⟨Z.g, 0, none⟩)]) ∧ Px w w' Z (pgNew (Dsk.new 2000) 1 n 0 1 (0, fun _ => none)) c ∧ Z.h.g = pd := by
  go_enter Tryz.func19, Tryz.ntmps19
  go_wp2_with fail
  refine (dnew_any 2000 w (by omega) (by omega)).mono ?_
  rintro e w1 ⟨h, rfl, hd, hnew, hb⟩
  have HD : Hid (Dp w w1 h (Dsk.new 2000)) := ⟨hd, hnew, hb⟩
  clear hd hnew hb
  have HK : Hid (Kp (Dsk.new 2000) 1 n 0 1 0 (fun _ => none) c) := Kp.start (Still.new (by omega) (by omega)) (fun _ => rfl) (by omega) h2 h256 (by simp [Dsk.new]; omega)
  go_wp2_with fail
  refine (px_open HD.out HK.out (by omega) rfl).mono ?_
  rintro e w2 ⟨Z, rfl, hx, hz, -⟩
  have HX := Lib.hid hx
  have HZ : Hid (Z.h.g = h.g) := by rw [Hid, hz]
  clear hx hz
  go_wp2_with fail
  go_ret2
  exact ⟨_, Z, rfl, HX.out, HZ.out⟩
end Go.Proofs.YtildohndbeagaaaGreatDoor
