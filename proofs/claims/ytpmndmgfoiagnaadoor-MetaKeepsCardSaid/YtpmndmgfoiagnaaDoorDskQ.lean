/- Disks that may be: which sectors, how many, how long. Plain. -/
import Derived.Test.YtpmndmgfoiagnaaDoorDskP
namespace Go.Proofs.YtpmndmgfoiagnaaDoor
open Go
set_option linter.unusedVariables false

theorem nodup_le : ∀ (N : Nat) (l : List Int), l.Nodup → (∀ x ∈ l, 0 ≤ x ∧ x < (N : Int)) → l.length ≤ N
  | 0, l, _, h => by
    cases l with
    | nil => simp
    | cons x r => have := h x (by simp); omega
  | N + 1, l, hn, h => by
    have h1 : (l.filter fun x => x != (N : Int)).length ≤ N := nodup_le N _ (hn.sublist List.filter_sublist) fun x hx => by
      have h2 := List.mem_filter.1 hx
      have h3 := h x h2.1
      have h4 : x ≠ (N : Int) := by simpa using h2.2
      omega
    have h5 : ∀ (l : List Int), l.Nodup → l.length ≤ (l.filter fun x => x != (N : Int)).length + 1 := by
      intro l
      induction l with
      | nil => intro _; simp
      | cons x r ih =>
        intro hn
        rw [List.nodup_cons] at hn
        by_cases hx : x = (N : Int)
        · rw [List.filter_cons_of_neg (by simp [hx])]
          have e : (r.filter fun y => y != (N : Int)) = r := List.filter_eq_self.2 fun y hy => by
            have : y ≠ (N : Int) := fun e => hn.1 (by rw [hx, ← e]; exact hy)
            simpa using this
          rw [e]
          simp
        · rw [List.filter_cons_of_pos (by simpa using hx)]
          have := ih hn.2
          simp only [List.length_cons]
          omega
    have := h5 l hn
    omega

def SecOk (x : Int × List UInt8) : Prop := 0 ≤ x.1 ∧ x.1 < 65536 ∧ x.2.length ≤ 512
/-- Sectors that may be, n of them. -/
def FinK (f : SF) (n : Nat) : Prop := ∃ l, FinL f n l ∧ ∀ x ∈ l, SecOk x
theorem FinK.nil : FinK (fun _ => none) 0 := ⟨[], FinL.nil, by simp⟩
theorem FinK.bound {f : SF} {n : Nat} (h : FinK f n) : n ≤ 65536 := by
  obtain ⟨l, h1, h2⟩ := h
  have := nodup_le 65536 (l.map (·.1)) h1.nodup fun x hx => by
    obtain ⟨y, hy, rfl⟩ := List.mem_map.1 hx
    have := h2 y hy
    exact ⟨this.1, this.2.1⟩
  rw [List.length_map, h1.len] at this
  exact this
theorem FinK.at {f : SF} {n : Nat} (h : FinK f n) {a : Int} {b : List UInt8} (hf : f a = some b) : 0 ≤ a ∧ a < 65536 ∧ b.length ≤ 512 := by
  obtain ⟨l, h1, h2⟩ := h
  rw [← h1.look a] at hf
  cases hfd : l.find? (fun x => x.1 == a) with
  | none => rw [hfd] at hf; cases hf
  | some x =>
    rw [hfd] at hf
    simp only [Option.map_some, Option.some.injEq] at hf
    have h3 := h2 x (List.mem_of_find?_eq_some hfd)
    have h4 := List.find?_some hfd
    simp only [beq_iff_eq] at h4
    subst h4 hf
    exact h3
theorem FinK.put {f : SF} {n : Nat} (h : FinK f n) {a : Int} {b : List UInt8} (h0 : 0 ≤ a) (h1 : a < 65536) (hb : b.length ≤ 512) : FinK (f.put a b) (f.nPut n a) := by
  obtain ⟨l, h2, h3⟩ := h
  refine ⟨_, h2.put a b, fun x hx => ?_⟩
  rcases List.mem_append.1 hx with h4 | h4
  · exact h3 x (List.mem_filter.1 h4).1
  · simp only [List.mem_singleton] at h4
    subst h4
    exact ⟨h0, h1, hb⟩
theorem FinK.del {f : SF} {n : Nat} (h : FinK f n) (a : Int) : FinK (f.del a) (f.nDel n a) := by
  obtain ⟨l, h2, h3⟩ := h
  exact ⟨_, h2.del a, fun x hx => h3 x (List.mem_filter.1 hx).1⟩
theorem tornB_len {b old : List UInt8} {n : Int} (hb : b.length ≤ 512) (ho : old.length ≤ 512) : (tornB b old n).length ≤ 512 := by
  unfold tornB
  split
  · rw [List.length_append, List.length_take, List.length_drop]; omega
  · exact hb
def PnOk : Pnd → Prop
  | .wr a b => 0 ≤ a ∧ a < 65536 ∧ b.length ≤ 512
  | .fr a => 0 ≤ a ∧ a < 65536
theorem doP_ok {s : SF × Nat} {p : Pnd} (h : FinK s.1 s.2) (hp : PnOk p) (n : Int) : FinK (doP s p n).1 (doP s p n).2 := by
  cases p with
  | wr a b =>
    refine h.put hp.1 hp.2.1 (tornB_len hp.2.2 ?_)
    cases hf : s.1 a with
    | none => simp
    | some o => exact (h.at hf).2.2
  | fr a => exact h.del a
theorem crashF_ok (l : List (Int × Int)) : ∀ (ps : List Pnd) (k : Nat) (s : SF × Nat), FinK s.1 s.2 → (∀ p ∈ ps, PnOk p) → FinK (crashF l k ps s).1 (crashF l k ps s).2
  | [], k, s, h, _ => h
  | p :: ps, k, s, h, hp => by
    rw [crashF]
    refine crashF_ok l ps (k + 1) _ ?_ fun q hq => hp q (by simp [hq])
    cases keptN l k with
    | none => exact h
    | some n => exact doP_ok h (hp p (by simp)) n

structure Dsk.Ok (D : Dsk) : Prop where
  view : FinK D.view D.nv
  ground : FinK D.ground D.ng
  pend : ∀ p ∈ D.pend, PnOk p
  size : 1 ≤ D.size ∧ D.size ≤ 65536
theorem Dsk.Ok.new {n : Int} (h : 1 ≤ n) (h2 : n ≤ 65536) : (Dsk.new n).Ok := ⟨FinK.nil, FinK.nil, by simp [Dsk.new], ⟨h, h2⟩⟩
theorem Dsk.Ok.put {D : Dsk} (h : D.Ok) {p : Pnd} (hp : PnOk p) (n : Int) : (D.put p n).Ok := by
  refine ⟨doP_ok (s := (D.view, D.nv)) h.view hp n, h.ground, fun q hq => ?_, h.size⟩
  rcases List.mem_append.1 hq with h1 | h1
  · exact h.pend q h1
  · simp only [List.mem_singleton] at h1
    subst h1
    exact hp
theorem why_zero {D : Dsk} {a : Int} {b : List UInt8} (h : D.why a b = 0) : 0 ≤ a ∧ a < D.size ∧ b.length ≤ 512 := by
  unfold Dsk.why at h
  split at h
  · cases h
  · split at h
    · cases h
    · omega
theorem Dsk.Ok.write {D : Dsk} (h : D.Ok) (a : Int) (b : List UInt8) : (D.write a b).Ok := by
  unfold Dsk.write
  split
  · rename_i hw
    have h1 := why_zero hw
    have h2 := h.size
    exact h.put (p := .wr a b) ⟨h1.1, by omega, h1.2.2⟩ _
  · exact h
theorem Dsk.Ok.free {D : Dsk} (h : D.Ok) (a : Int) : (D.free a).Ok := by
  unfold Dsk.free
  split
  · rename_i hs
    obtain ⟨b, hb⟩ := Option.isSome_iff_exists.1 hs
    have := h.view.at hb
    exact h.put (p := .fr a) ⟨this.1, this.2.1⟩ _
  · exact h
theorem Dsk.Ok.sync {D : Dsk} (h : D.Ok) : D.sync.Ok := ⟨h.view, h.view, by simp [Dsk.sync], h.size⟩
theorem Dsk.Ok.crash {D : Dsk} (h : D.Ok) (l : List (Int × Int)) : (D.crash l).Ok := by
  have := crashF_ok l D.pend 0 (D.ground, D.ng) h.ground h.pend
  exact ⟨this, this, by simp [Dsk.crash], h.size⟩
theorem Dsk.Ok.limited {D : Dsk} (h : D.Ok) (n : Int) : ({ D with limit := n } : Dsk).Ok := ⟨h.view, h.ground, h.pend, h.size⟩
end Go.Proofs.YtpmndmgfoiagnaaDoor
