/- What the proof of PagerLeast needs, part 20. -/
import Derived.Test.YtildohndbeagaaaGreatDoorPagerLeastJ14
import Derived.Test.YtildohndbeagaaaGreatDoorPagerLeastJ19
import Derived.Shelf.AbstractIn

namespace Go.Proofs.YtildohndbeagaaaGreatDoor
open Go Go.RowKit Go.Maps Go.Sort Go.Shelf
set_option linter.unusedVariables false

/-- slices.Sort's two contracts here. -/
theorem sortsA (m : Nat) : AnyZI.SortsIn Tryz.prog Tryz.sortedA_ren Fence.wide m :=
  ⟨fun blk off cap ss W hH hblk hsz => callsIn_wide.2 (AnyM.slices_Sort_int Tryz.sortA blk off cap ss W hH hblk hsz),
   fun p cap W => callsIn_wide.2 (AnyM.slices_Sort_int_none Tryz.sortA p cap W)⟩
/-- Numbers as ints. -/
def iV (l : List Nat) : List Value := l.map fun i : Nat => .int .i64 (i : Int)
theorem keysW_any (b : Nat) (W : World) :
    Calls Tryz.prog 44 #[.map (some b)] W fun e w' => e = .returned (.func (.func 67) #[] #[.pointer (some ⟨W.heap.size, 0, none⟩)]) ∧ w' = W.alloc (.cells #[.map (some b)] 71) :=
  (callsIn_wide (n := 6)).1 (AnyZI.keys_in Tryz.keysA Fence.wide 6 trivial rfl (some b) W)
theorem keysT_any (b : Nat) (W : World) :
    Calls Tryz.prog 72 #[.map (some b)] W fun e w' => e = .returned (.func (.func 91) #[] #[.pointer (some ⟨W.heap.size, 0, none⟩)]) ∧ w' = W.alloc (.cells #[.map (some b)] 77) :=
  (callsIn_wide (n := 6)).1 (AnyZI.keys_in Tryz.keysB Fence.wide 6 trivial rfl (some b) W)
theorem sorted_row {w' : World} {B : Nat} {v : Value} {ss : List Int} {l : List Nat} (hl : l.Pairwise (· < ·)) {L : List Int} (hp : (l.map fun i : Nat => (i : Int)).Perm L) (hs : ss.Perm L) (hrow : w'.ownsRow B 3 1 v ss.length ((ss.mergeSort (fun x y => decide (x ≤ y))).map encZ)) : w'.ownsRow B 3 1 v l.length (iV l) := by
  have e1 : ss.mergeSort (fun x y => decide (x ≤ y)) = l.map fun i : Nat => (i : Int) := by
    rw [mergeSort_of_perm_i hs]
    exact ids_sorted l hl hp
  have e2 : ss.length = l.length := by rw [hs.length_eq, ← hp.length_eq, List.length_map]
  rw [e1, e2, List.map_map] at hrow
  exact hrow
set_option maxHeartbeats 1000000 in
theorem sortedW_any {α : Type} (b g : Nat) (n : Nat) {f : Int → Option Value} {p : Int → Option α} (W : World) (hm : MpV Tryz.prog 3 W b f n) (hfp : ∀ x, InI x → (f x).isSome = (p x).isSome) (h90 : In90 p) (hg : Blk W g 71 #[.map (some b)]) :
    Calls Tryz.prog 43 #[.func (.func 67) #[] #[.pointer (some ⟨g, 0, none⟩)]] W fun e w' => ∃ A c, e = .returned (.slice A (idsOf p).length c) ∧ w'.ownsRow W.heap.size 3 1 (.slice A (idsOf p).length c) (idsOf p).length (iV (idsOf p)) ∧ Below W.heap.size W w' := by
  obtain ⟨hn, D, hown, hperm, hsz⟩ := hm.ids intTy hfp h90
  have hle := ids_le p
  have hseq : SeqGives Fence.wide 2 Tryz.prog 67 #[.pointer (some ⟨g, 0, none⟩)] encZ (fun ss => ss.Perm (intKeys D)) (Maps.size D) W :=
    AnyZI.keys_gives (ρ := Tryz.keysA_ren) { Tryz.keysA with } Fence.wide _ trivial rfl (by omega) g b n D _ hg.lt (hg.cell 0) hown
  have cS := AnyZI.sorted_in Tryz.sortedA Fence.wide 5 trivial trivial trivial trivial rfl (by omega) (sortsA _) (enters_of Tryz.func66 (by kernel_rfl) rfl) 67 #[.pointer (some ⟨g, 0, none⟩)] trivial (enters_of Tryz.func67 (by kernel_rfl) rfl) _ _ (by rw [hsz, hn]; unfold maxLen; omega) (by rw [hsz, hn]; omega) _ hseq
  refine ((callsIn_wide (n := 5)).1 cS).mono ?_
  rintro e w' ⟨v, ss, rfl, hS, hrow, hnil, hb⟩
  have hrow := sorted_row (ids_lt p) hperm hS hrow
  rcases hrow.2 with ⟨rfl, h0⟩ | ⟨g', cap, cur, rfl, h3⟩
  · refine ⟨none, 0, ?_, ?_, hb⟩
    · rw [h0]
    · rw [h0]; rw [h0] at hrow; exact hrow
  · exact ⟨_, cap, rfl, hrow, hb⟩
set_option maxHeartbeats 1000000 in
theorem sortedT_any {α : Type} (b g : Nat) (n : Nat) {f : Int → Option Value} {p : Int → Option α} (W : World) (hm : MpV Tryz.prog 3 W b f n) (hfp : ∀ x, InI x → (f x).isSome = (p x).isSome) (h90 : In90 p) (hg : Blk W g 77 #[.map (some b)]) :
    Calls Tryz.prog 43 #[.func (.func 91) #[] #[.pointer (some ⟨g, 0, none⟩)]] W fun e w' => ∃ A c, e = .returned (.slice A (idsOf p).length c) ∧ w'.ownsRow W.heap.size 3 1 (.slice A (idsOf p).length c) (idsOf p).length (iV (idsOf p)) ∧ Below W.heap.size W w' := by
  obtain ⟨hn, D, hown, hperm, hsz⟩ := hm.ids intTy hfp h90
  have hle := ids_le p
  have hseq : SeqGives Fence.wide 2 Tryz.prog 91 #[.pointer (some ⟨g, 0, none⟩)] encZ (fun ss => ss.Perm (intKeys D)) (Maps.size D) W :=
    AnyZI.keys_gives (ρ := Tryz.keysB_ren) { Tryz.keysB with } Fence.wide _ trivial rfl (by omega) g b n D _ hg.lt (hg.cell 0) hown
  have cS := AnyZI.sorted_in Tryz.sortedA Fence.wide 5 trivial trivial trivial trivial rfl (by omega) (sortsA _) (enters_of Tryz.func66 (by kernel_rfl) rfl) 91 #[.pointer (some ⟨g, 0, none⟩)] trivial (enters_of Tryz.func91 (by kernel_rfl) rfl) _ _ (by rw [hsz, hn]; unfold maxLen; omega) (by rw [hsz, hn]; omega) _ hseq
  refine ((callsIn_wide (n := 5)).1 cS).mono ?_
  rintro e w' ⟨v, ss, rfl, hS, hrow, hnil, hb⟩
  have hrow := sorted_row (ids_lt p) hperm hS hrow
  rcases hrow.2 with ⟨rfl, h0⟩ | ⟨g', cap, cur, rfl, h3⟩
  · refine ⟨none, 0, ?_, ?_, hb⟩
    · rw [h0]
    · rw [h0]; rw [h0] at hrow; exact hrow
  · exact ⟨_, cap, rfl, hrow, hb⟩
end Go.Proofs.YtildohndbeagaaaGreatDoor
