/- What the proof of TreeOpens needs, part 20. -/
import Derived.Test.YthbhkdhljlganaaGreatDoorTreeOpensJ19

namespace Go.Proofs.YthbhkdhljlganaaGreatDoor
open Go Go.RowKit
set_option linter.unusedVariables false

theorem recGet_lenT {l : List UInt8} {q : Nat} {t : List UInt8} {n : Nat} (h : recGet l = some ((q, t), n)) : t.length ≤ 65536 := by
  unfold recGet at h
  split at h
  · cases h
  · split at h
    · cases h
    · rename_i f hf
      have h1 := (rdNum_le f (e := 0) (by omega)).2.2
      have := (rdText_le (rdNum f 0).2.1 (e := (rdNum f 0).2.2) h1).1
      split at h
      · simp only [Option.some.injEq, Prod.mk.injEq] at h
        rw [← h.1.2]
        exact this
      · cases h
theorem tellsO_len {o : Option (List UInt8)} {q : Nat} {t : List UInt8} (h : tellsO o = some (q, t)) : t.length ≤ 65536 := by
  cases o with
  | none => cases h
  | some s =>
    have h : tellsB s = some (q, t) := h
    unfold tellsB at h
    split at h
    · rename_i q' t' n hg
      split at h
      · simp only [Option.some.injEq, Prod.mk.injEq] at h
        rw [← h.2]
        exact recGet_lenT hg
      · cases h
    · cases h
theorem mtStep_len (f : SF) (a : Int) (x : Nat × Int × List UInt8) (i : Int) (h : x.2.2.length ≤ 65536) : (mtStep f a x i).2.2.length ≤ 65536 := by
  rw [mtStep_eq]
  cases ht : tellsO (f (a + i)) with
  | none => exact h
  | some p =>
    obtain ⟨q, t⟩ := p
    simp only
    split
    · exact tellsO_len ht
    · exact h
theorem mtOpen_len (f : SF) (a : Int) : (mtOpen f a).2.2.length ≤ 65536 := mtStep_len f a _ 1 (mtStep_len f a _ 0 (by simp))

def PoPost (h : Zn) (D : Dsk) (a : Int) (n : Nat) (w : World) (e : Ending) (w' : World) : Prop :=
  ((∃ P Z, pgOpen D a n = some P ∧ e = .returned (.tuple #[.pointer (some ⟨Z.g, 0, none⟩), .int .i64 0]) ∧ Pg w' Z P ∧ Z.h = h ∧ P.tag < U64 ∧ ∀ b, Z.has b → h.has b ∨ w.heap.size ≤ b) ∨
    (pgOpen D a n = none ∧ e = .returned (.tuple #[.pointer none, .int .i64 134]))) ∧ Below w.heap.size w w'
/-- A pager that is made, of a meta page. -/
theorem Pg.made {w : World} {h : Zn} {D : Dsk} {gm : Nat} {a : Int} {num : Nat} {last : Int} (n : Nat) (hd : Dk w h D) (hm : Mk w gm h a num last) :
    Pg ((((w.alloc (.map #[] 0)).alloc (.map #[] 0)).alloc (.map #[] 0)).alloc (.cells #[.pointer (some ⟨h.g, 0, none⟩), .pointer (some ⟨gm, 0, none⟩), .int .i64 a, .int .i64 (n : Int), .int .u64 0, .map (some w.heap.size), .map (some (w.heap.size + 1)), .map (some (w.heap.size + 1 + 1))] 91))
      ⟨w.heap.size + 1 + 1 + 1, gm, w.heap.size, w.heap.size + 1, w.heap.size + 1 + 1, h⟩ (pgNew D a n num last (0, fun _ => none)) := by
  have s1 : (w.alloc (.map #[] 0)).heap.size = w.heap.size + 1 := by simp
  have s2 : ((w.alloc (.map #[] 0)).alloc (.map #[] 0)).heap.size = w.heap.size + 1 + 1 := by simp
  have s3 : (((w.alloc (.map #[] 0)).alloc (.map #[] 0)).alloc (.map #[] 0)).heap.size = w.heap.size + 1 + 1 + 1 := by simp
  have q1 : Below w.heap.size w (w.alloc (.map #[] 0)) := (Below.refl _ _).alloc (Nat.le_refl _) _
  have q2 : Below (w.heap.size + 1) (w.alloc (.map #[] 0)) ((w.alloc (.map #[] 0)).alloc (.map #[] 0)) := by
    have := (Below.refl (w.alloc (.map #[] 0)).heap.size (w.alloc (.map #[] 0))).alloc (Nat.le_refl _) (.map #[] 0)
    rwa [s1] at this
  have q3 : Below (w.heap.size + 1 + 1) ((w.alloc (.map #[] 0)).alloc (.map #[] 0)) (((w.alloc (.map #[] 0)).alloc (.map #[] 0)).alloc (.map #[] 0)) := by
    have := (Below.refl ((w.alloc (.map #[] 0)).alloc (.map #[] 0)).heap.size ((w.alloc (.map #[] 0)).alloc (.map #[] 0))).alloc (Nat.le_refl _) (.map #[] 0)
    rwa [s2] at this
  have q4 := fun o => (Below.refl (((w.alloc (.map #[] 0)).alloc (.map #[] 0)).alloc (.map #[] 0)).heap.size (((w.alloc (.map #[] 0)).alloc (.map #[] 0)).alloc (.map #[] 0))).alloc (Nat.le_refl _) o
  have q13 := fun o => ((q1.trans (q2.mono (by omega))).trans (q3.mono (by omega))).trans ((q4 o).mono (by rw [s3]; omega))
  have t1 := Tbl.made w
  have t2 := Wrt.made (w.alloc (.map #[] 0))
  have t3 := Gon.made ((w.alloc (.map #[] 0)).alloc (.map #[] 0))
  rw [s1] at t2
  rw [s2] at t3
  have b4 := Blk.new (((w.alloc (.map #[] 0)).alloc (.map #[] 0)).alloc (.map #[] 0)) 91 #[.pointer (some ⟨h.g, 0, none⟩), .pointer (some ⟨gm, 0, none⟩), .int .i64 a, .int .i64 (n : Int), .int .u64 0, .map (some w.heap.size), .map (some (w.heap.size + 1)), .map (some (w.heap.size + 1 + 1))]
  rw [s3] at b4
  have hlt : ∀ b, h.has b → b < w.heap.size := fun b hb => hd.lt hb
  refine ⟨hd.later (q13 _), hm.later (q13 _), b4, ?_, ?_, t3.later (by rw [s3] at q4; rw [s3]; exact q4 _), by simp, by simp; omega, by simp, fun e => ?_, fun e => ?_, fun e => ?_⟩
  · exact ((t1.later (by rw [s1]; exact q2)).later (by rw [s2]; exact q3)).later (q4 _)
  · exact (t2.later (by rw [s2]; exact q3)).later (q4 _)
  · have := hlt _ e; simp at this
  · have := hlt _ e; simp at this; omega
  · have := hlt _ e; simp at this; omega

set_option maxHeartbeats 4000000 in
set_option maxRecDepth 100000 in
theorem popen_any (h : Zn) (D : Dsk) (a : Int) (n : Nat) (w : World) (hd : Dk w h D) (hok : D.Ok) (hpl : pgPl a (n : Int)) :
    Calls Tryz.prog 7 #[.pointer (some ⟨h.g, 0, none⟩), .int .i64 a, .int .i64 (n : Int)] w (PoPost h D a n w) := by
  have hmm := @run_makeMap Tryz.prog
  obtain ⟨h2, h256, ha0, ha1⟩ := hpl
  have HD := Lib.hid hd
  have HOK := Lib.hid hok
  have HPO : Hid (pgOpen D a n = if (mtOpen D.view a).1 = 0 then some (pgNew D a n 0 (mtOpen D.view a).2.1 (0, fun _ => none)) else (pgParse n (mtOpen D.view a).2.2).map (pgNew D a n (mtOpen D.view a).1 (mtOpen D.view a).2.1)) := rfl
  clear hd hok
  go_enter Tryz.func7, Tryz.ntmps7
  go_wp2_with fail
  refine (mopen_any h D a w HD.out HOK.out ha0 (by omega)).mono ?_
  rintro e w1 ⟨gm, rfl, hm, hg, q1⟩
  have hbl := mtOpen_len D.view a
  obtain ⟨T, hT⟩ : ∃ T, mtOpen D.view a = T := ⟨_, rfl⟩
  rw [hT] at hm hbl HPO ⊢
  clear hT
  obtain ⟨num, last, body⟩ := T
  simp only at hm hbl HPO ⊢
  have HP := Lib.hid (Pg.made n (HD.out.later q1) hm)
  have hs1 := q1.size
  have hgl := hm.blk.lt
  have Q2 := Lib.hid (q1.trans (((((((Below.refl w1.heap.size w1).alloc (Nat.le_refl _) (.map #[] 0)).alloc (by simp) (.map #[] 0)).alloc (by simp; omega) (.map #[] 0)).alloc (by simp; omega) (.cells #[.pointer (some ⟨h.g, 0, none⟩), .pointer (some ⟨gm, 0, none⟩), .int .i64 a, .int .i64 (n : Int), .int .u64 0, .map (some w1.heap.size), .map (some (w1.heap.size + 1)), .map (some (w1.heap.size + 1 + 1))] 91))).mono hs1))
  have HN : Hid (∀ b, (⟨w1.heap.size + 1 + 1 + 1, gm, w1.heap.size, w1.heap.size + 1, w1.heap.size + 1 + 1, h⟩ : Pz).has b → h.has b ∨ w.heap.size ≤ b) := fun b hb => by
    rcases hb with h | h | h | h | h | h <;> first | exact .inl h | (right; simp only at h; omega)
  clear hm hg q1
  by_cases h0 : num = 0
  · subst h0
    have HE : Hid (pgOpen D a n = some (pgNew D a n 0 last (0, fun _ => none))) := by rw [Hid, HPO.out, if_pos rfl]
    have e121 : mtErr (0, last, body) = 121 := rfl
    rw [e121]
    go_wp2_with fail
    go_ret2
    exact ⟨.inl ⟨_, _, HE.out, rfl, HP.out, rfl, by show 0 < U64; unfold U64; omega, HN.out⟩, Q2.out⟩
  · have HE : Hid (pgOpen D a n = (pgParse n body).map (pgNew D a n num last)) := by rw [Hid, HPO.out, if_neg h0]
    have e0 : mtErr (num, last, body) = 0 := if_neg h0
    rw [e0]
    clear h0 e0 HPO
    go_wp2_with fail
    refine (pparse_any _ _ body _ HP.out rfl (by show 2 ≤ n; omega) (by show n ≤ 256; omega) (by omega)).mono ?_
    rintro e w3 ⟨hc, hpt⟩
    have Q3 : Hid (Below w.heap.size w w3) := Turn.below Q2.out hpt Q2.out.size fun b hb => by
      rcases hb with h | h <;> (simp only at h; omega)
    rcases hc with ⟨tag, t, hpa, rfl, hp, htag⟩ | ⟨hpa, rfl⟩
    · have HE2 : Hid (pgOpen D a n = some (pgNew D a n num last (tag, t))) := by rw [Hid, HE.out]; simp only [pgNew] at hpa; rw [hpa]; rfl
      have HP3 := Lib.hid hp
      have HTG := Lib.hid htag
      clear hpa hp hpt htag
      go_wp2_with fail
      go_ret2
      exact ⟨.inl ⟨_, _, HE2.out, rfl, HP3.out, rfl, HTG.out, HN.out⟩, Q3.out⟩
    · have HE2 : Hid (pgOpen D a n = none) := by rw [Hid, HE.out]; simp only [pgNew] at hpa; rw [hpa]; rfl
      clear hpa hpt
      go_wp2_with fail
      go_ret2
      exact ⟨.inr ⟨HE2.out, rfl⟩, Q3.out⟩
end Go.Proofs.YthbhkdhljlganaaGreatDoor

namespace Go.Proofs.YthbhkdhljlganaaGreatDoor
open Go Go.RowKit
set_option linter.unusedVariables false

section
variable {w w' : World} {h h' : Zn} {D D' : Dsk}
end
section
variable {w w' : World} {Z : Pz} {P : Pgr} {h' : Zn} {D' : Dsk}
end

section
variable {w wr w' : World} {Z Z' : Pz} {P : Pgr} {D' : Dsk} {gk bo N : Nat} {s : Int} {t : TF}
end
end Go.Proofs.YthbhkdhljlganaaGreatDoor
