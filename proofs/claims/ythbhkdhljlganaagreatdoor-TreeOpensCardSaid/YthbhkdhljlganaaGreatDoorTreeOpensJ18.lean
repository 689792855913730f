/- What the proof of TreeOpens needs, part 18. -/
import Derived.Test.YthbhkdhljlganaaGreatDoorTreeOpensJ17
import Derived.WideKeyEntry

namespace Go.Proofs.YthbhkdhljlganaaGreatDoor
open Go Go.RowKit
set_option linter.unusedVariables false

open Go.ChangeMaps Go.MapKept Go.WideElems in
/-- 'm[a], .. = v, ..' at a new key: the entry, then what is stored in it. -/
theorem MpV.entry {P : Program} {k : TypeId} {w : World} {b n : Nat} {f : Int → Option Value} (hk : P.underlying k = some (.int .i64)) (h : MpV P k w b f n) {t e : TypeId} (ht : P.underlying t = some (.map k e)) {z : Value} (hz : ∀ u : World, (zeroValue e).run P u = .ok z u) (hn : n < maxLen) {a : Int} (ha : InI a) (hfa : f a = none) (v : Value) :
    ∃ (es es' : Array MapEntry) (clock : Nat), (Instr.mapEntry t (.map (some b)) (.int .i64 a)).run P w = .ok (.tuple #[z, .int .i64 (clock : Int)]) (setBlock w b (.map es (clock + 1))) ∧ w.mapTurned (setBlock w b (.map es (clock + 1))) b ∧
      ∀ w2 : World, w2.heap[b]? = some (.map es (clock + 1)) → (Instr.entryStore t (.map (some b)) (.int .i64 (clock : Int)) v).run P w2 = .ok () (setBlock w2 b (.map es' (clock + 1))) ∧ w2.mapTurned (setBlock w2 b (.map es' (clock + 1))) b ∧
        MpV P k (setBlock w2 b (.map es' (clock + 1))) b (fun x => if x = a then some v else f x) (nPut f n a) := by
  have K := Maps.int_keyed hk
  have hlook := h.look hk ht (hz w) ha
  obtain ⟨w', hput, hmp, _⟩ := h.put hk ht hn ha v
  obtain ⟨D, ⟨es, clock, hb, F, hs, hD⟩, h2, h3⟩ := h
  have hkey : keyOf P k (.int .i64 a) = some (.int .i64 a) := key_mk hk ha
  obtain ⟨s1, s2, _⟩ := F.stamped
  rcases K.find w hkey es.toList F.keys with ⟨h1, h4⟩ | ⟨j, e0, h1, h4, h5⟩
  · refine ⟨es.push ⟨.int .i64 a, z, clock⟩, es.push ⟨.int .i64 a, v, clock⟩, clock, ?_, ⟨es, clock, _, _, hb, rfl⟩, fun w2 hw2 => ⟨?_, ⟨_, _, _, _, hw2, rfl⟩, ?_⟩⟩
    · simp [Instr.mapEntry, run_underlying ht, MapKept.run_getObj_map hb, K.check w false hkey, h1, hz, MapKept.run_setObj_map _ hb, Result.andThen, setBlock, goInt]
    · have hidx : (es.push ⟨.int .i64 a, z, clock⟩).findIdx? (fun e => ((e.born : Nat) : Int) == ((clock : Nat) : Int)) = some es.size := by
        rw [findIdx_arr]
        exact findIdx_born (l := (es.push ⟨.int .i64 a, z, clock⟩).toList) (j := es.size) (e0 := ⟨.int .i64 a, z, clock⟩) (by
          simp only [Array.toList_push, List.map_append, List.map_cons, List.map_nil]
          refine List.nodup_append.2 ⟨s2, by simp, fun a ha c hc e1 => ?_⟩
          simp only [List.mem_singleton] at hc
          obtain ⟨x, hx, rfl⟩ := List.mem_map.1 ha
          have := s1 x hx
          omega) (by simp)
      have hmod : (es.push ⟨.int .i64 a, z, clock⟩).modify es.size (fun e => { e with val := v }) = es.push ⟨.int .i64 a, v, clock⟩ := by
        apply Array.ext'
        rw [Array.toList_modify, Array.toList_push, Array.toList_push, ← Array.length_toList, modify_last]
      simp [Instr.entryStore, MapKept.run_getObj_map hw2, asInt, asIntOf, hidx, hmod, MapKept.run_setObj_map _ hw2, Result.andThen, setBlock]
    · have hrun : (Instr.mapUpdate t (.map (some b)) (.int .i64 a) v).run P w = .ok () (setBlock w b (.map (es.push ⟨.int .i64 a, v, clock⟩) (clock + 1))) := by
        simp [Instr.mapUpdate, run_underlying ht, MapKept.run_getObj_map hb, K.check w false hkey, h1, MapKept.run_setObj_map _ hb, Result.andThen, setBlock]
      rw [hrun] at hput
      injection hput with _ hw
      subst hw
      refine hmp.at ?_
      rw [heap_setBlock_same hw2, heap_setBlock_same hb]
  · exfalso
    rw [hfa] at hlook
    simp [Instr.lookup, run_underlying ht, MapKept.run_getObj_map hb, K.check w _ hkey, h1, Result.andThen] at hlook

section
variable {w w' : World} {Z : Pz} {P : Pgr} {z : Nat} {t : TypeId}
/-- The kinds that a pager reads. -/
def pgKs : List TypeId := [91, 151, 76, 124, 3, 31, 5]
theorem Pg.other (p : Pg w Z P) (hz : kindAt w z = some (some t)) (ht : t ∉ pgKs) (hg : w.grownBy w' (some z)) : Pg w' Z P := by
  have hne : ∀ {u : TypeId}, u ∈ pgKs → kindAt w z ≠ some (some u) := fun hu e => by
    rw [hz] at e
    injection e with e
    injection e with e
    exact ht (by rw [e]; exact hu)
  have hbk : ∀ {g : Nat} {u : TypeId} {cs : Array Value}, Blk w g u cs → u ∈ pgKs → Blk w' g u cs := fun {g u cs} hb hu => hb.grown hg fun e => by
    injection e with e
    subst e
    exact hne hu (kind_blk hb)
  have hmap : ∀ {b : Nat}, kindAt w b = some none → b ≠ z := fun hb e => by
    subst e
    rw [hz] at hb
    cases hb
  refine ⟨p.dk.other hz ?_ hg, ⟨hbk p.mt.blk (by simp [pgKs])⟩, hbk p.blk (by simp [pgKs]), ⟨p.tb.in90, p.tb.mp.other (hmap p.tb.kind) hg⟩, ⟨p.wr.in90, p.wr.mp.other (hmap p.wr.kind) (hne (by simp [pgKs])) hg⟩, ⟨p.gn.in90, p.gn.mp.other (hmap p.gn.kind) hg⟩, p.n1, p.n2, p.n3, p.m1, p.m2, p.m3⟩
  intro hm
  apply ht
  simp only [List.mem_cons, List.not_mem_nil, or_false] at hm
  simp only [pgKs, List.mem_cons, List.not_mem_nil, or_false]
  rcases hm with h | h | h | h | h <;> simp [h]
theorem Pg.not_has (p : Pg w Z P) (hz : kindAt w z = some (some t)) (ht : t ∉ pgKs) : ¬ Z.has z := fun h => by
  have hk := p.kinds h
  rw [hz] at hk
  rcases hk with hk | hk | hk | hk | hk
  all_goals first
    | (injection hk with hk; injection hk with hk; exact ht (by rw [hk]; simp [pgKs]))
    | (injection hk with hk; cases hk)
theorem Pg.putT (p : Pg w Z P) {f : TF} (h : Tbl w' Z.bt f) (hg : w.mapTurned w' Z.bt) : Pg w' Z { P with tb := f } ∧ Ptp Z w Z w' :=
  ⟨⟨p.dk.map p.m1 p.tb.kind hg, ⟨p.mt.blk.map p.tb.kind hg⟩, p.blk.map p.tb.kind hg, h, p.wr.map (Ne.symm p.n1) p.tb.kind hg, p.gn.map (Ne.symm p.n2) hg, p.n1, p.n2, p.n3, p.m1, p.m2, p.m3⟩, ⟨rfl, rfl, Turn.of_map hg (.inr (.inr (.inl rfl))), fun b hb => .inl hb⟩⟩
/-- The pager's own block is put anew. -/
theorem Pg.setBlk (p : Pg w Z P) {w' : World} {P' : Pgr} (hD : P'.D = P.D) (ha : P'.a = P.a) (hn : P'.num = P.num) (hl : P'.last = P.last) (htb : P'.tb = P.tb) (hwr : P'.wr = P.wr) (hgn : P'.gn = P.gn) (hg : w.grownBy w' (some Z.g)) (hb : Blk w' Z.g 91 (pgC Z P')) : Pg w' Z P' := by
  have hk := kind_blk p.blk
  have hmap : ∀ {b : Nat}, kindAt w b = some none → b ≠ Z.g := fun hb e => by
    subst e
    rw [hk] at hb
    cases hb
  refine ⟨by rw [hD]; exact p.dk.other hk (by decide) hg, ?_, hb, by rw [htb]; exact ⟨p.tb.in90, p.tb.mp.other (hmap p.tb.kind) hg⟩, by rw [hwr]; exact ⟨p.wr.in90, p.wr.mp.other (hmap p.wr.kind) (by rw [hk]; decide) hg⟩, by rw [hgn]; exact ⟨p.gn.in90, p.gn.mp.other (hmap p.gn.kind) hg⟩, p.n1, p.n2, p.n3, p.m1, p.m2, p.m3⟩
  rw [ha, hn, hl]
  exact ⟨p.mt.blk.grown hg fun e => by
    injection e with e
    have := kind_blk p.mt.blk
    rw [← e, hk] at this
    revert this
    decide⟩
end
theorem Rd.map {w w' : World} {g B : Nat} {l : List UInt8} {err : Nat} (h : Rd w g B l err) {z : Nat} (hk : kindAt w z = some none) (hg : w.mapTurned w' z) : Rd w' g B l err := by
  obtain ⟨A, k, c, hb, hu⟩ := h
  exact ⟨A, k, c, hb.map hk hg, hu.other (by rw [hk]; simp) hg.grown⟩
theorem Rd.beside {w w' : World} {g B : Nat} {l : List UInt8} {err : Nat} (h : Rd w g B l err) {z : Nat} {t : TypeId} (hk : kindAt w z = some (some t)) (h1 : t ≠ 210) (h2 : t ≠ 5) (hg : w.grownBy w' (some z)) : Rd w' g B l err := by
  obtain ⟨A, k, c, hb, hu⟩ := h
  refine ⟨A, k, c, hb.grown hg fun e => ?_, hu.other (fun e => ?_) hg⟩
  · injection e with e
    subst e
    rw [kind_blk hb] at hk
    injection hk with hk
    injection hk with hk
    exact h1 hk.symm
  · rw [hk] at e
    injection e with e
    injection e with e
    exact h2 e
theorem Rd.kind {w : World} {g B : Nat} {l : List UInt8} {err : Nat} (h : Rd w g B l err) : kindAt w g = some (some 210) := by
  obtain ⟨A, k, c, hb, hu⟩ := h
  exact kind_blk hb
theorem rdCount_fin (l : List UInt8) (err : Nat) (m : Int) (h0 : 0 ≤ m) (he : err ≤ 1000) : ((rdCount l err m).1 : Int) ≤ m ∧ (rdCount l err m).2.1.length ≤ l.length ∧ (rdCount l err m).2.2 ≤ 1000 := by
  unfold rdCount
  split
  · exact ⟨by simpa using h0, Nat.le_refl _, he⟩
  · split
    · rename_i er hg
      exact ⟨by simpa using h0, Nat.le_refl _, (rdErr_le hg).1⟩
    · rename_i x n hg
      split
      · exact ⟨by simpa using h0, Nat.le_refl _, (show 32 ≤ 1000 by decide)⟩
      · exact ⟨by simp only; omega, by rw [List.length_drop]; omega, Nat.zero_le _⟩
end Go.Proofs.YthbhkdhljlganaaGreatDoor
