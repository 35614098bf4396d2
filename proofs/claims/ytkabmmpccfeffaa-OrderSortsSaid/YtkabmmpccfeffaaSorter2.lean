/- package order's Sorter, by contracts: New, Reset. -/
import Derived.Test.YtkabmmpccfeffaaSorter
namespace Go.Proofs.Ytkabmmpccfeffaa
open Go.RowKit
set_option linter.unusedVariables false
set_option linter.unusedSimpArgs false

theorem sorter_new (w : World) (m k : Nat) (hm : m ≤ 65536) (hk : k = m) :
    Ending.returned (.pointer (some ⟨w.heap.size, 0, none⟩)) = .returned (.pointer (some ⟨w.heap.size, 0, none⟩)) ∧
      IsSorter (w.alloc (.cells #[.int .i64 m, .slice none 0 0, .slice none 0 0, .bool false, .int .i64 0] 95)) w.heap.size w.heap.size k [] [] false 0 ∧
      Below w.heap.size w (w.alloc (.cells #[.int .i64 m, .slice none 0 0, .slice none 0 0, .bool false, .int .i64 0] 95)) := by
  subst hk
  exact ⟨rfl, ⟨none, none, 0, 0, heap_alloc_new w _, Nat.le_refl _, World.ownsRow_nil _ _ _ _, World.ownsRow_nil _ _ _ _, .inl rfl, by simp, by simp, hm⟩, (Below.refl _ _).alloc (Nat.le_refl _) _⟩

theorem sorter_reset {w : World} {B g most : Nat} {last now : List Int} {begun : Bool} {over : Int} (h : IsSorter w B g most last now begun over) {w' : World} {A1 A2 : Option Addr} {c1 c2 : Nat}
    (hb : w.heap[g]? = some (.cells #[.int .i64 most, .slice A1 last.length c1, .slice A2 now.length c2, .bool begun, .int .i64 over] 95 (0, 0)))
    (hw : w'.heap[g]? = some (.cells #[.int .i64 most, .slice A1 0 c1, .slice A2 0 c2, .bool false, .int .i64 0] 95 (0, 0)))
    (hk : ∀ k, k ≠ g → w'.heap[k]? = w.heap[k]?) : IsSorter w' B g most [] [] false 0 := by
  obtain ⟨A1', A2', c1', c2', hb', hg, o1, o2, hne, l1, l2, l3⟩ := h
  rw [hb] at hb'
  injection hb' with hb'
  injection hb' with hb'
  simp at hb'
  obtain ⟨⟨rfl, rfl⟩, rfl, rfl⟩ := hb'
  have far : ∀ {n : Nat} {v : Value} {xs : List Value}, w.ownsRow B 5 1 v n xs → w'.ownsRow B 5 1 v n xs := by
    intro n v xs ho
    refine ⟨ho.1, ?_⟩
    rcases ho.2 with h2 | ⟨k, cap, cur, hv, hbk, hh, r⟩
    · exact .inl h2
    · refine .inr ⟨k, cap, cur, hv, hbk, ?_, r⟩
      rw [hk k (by rintro rfl; rw [hh] at hb; simp at hb)]
      exact hh
  refine ⟨A1, A2, c1, c2, hw, hg, far (own_zero o1), far (own_zero o2), ?_, by simp, by simp, l3⟩
  rcases hne with e | e
  · left
    cases A1 with
    | none => rfl
    | some a => simp [Value.ownBlock] at e
  · right
    intro e2
    apply e
    cases A1 <;> cases A2 <;> simp_all [Value.ownBlock]

set_option maxRecDepth 100000 in
set_option maxHeartbeats 1000000 in
theorem new_any (most : Int) (w : World) :
    Calls Try.prog 19 #[.int .i64 most] w fun e w' => e = .returned (.pointer (some ⟨w.heap.size, 0, none⟩)) ∧ IsSorter w' w.heap.size w.heap.size (min (max most 0) 65536).toNat [] [] false 0 ∧ Below w.heap.size w w' := by
  have hm : ((min (max most 0) 65536).toNat : Int) = min (max most 0) 65536 := by omega
  go_enter Try.func19, Try.ntmps19
  go_wp2_with fail
  · go_ret
    exact sorter_new w 0 _ (by omega) (by omega)
  · go_ret
    exact sorter_new w 65536 _ (by omega) (by omega)
  · go_ret
    obtain ⟨m, rfl⟩ := Int.eq_ofNat_of_zero_le (show 0 ≤ most by assumption)
    exact sorter_new w m _ (by omega) (by omega)

set_option maxRecDepth 100000 in
set_option maxHeartbeats 1000000 in
theorem reset_any {w : World} {B g most : Nat} {last now : List Int} {begun : Bool} {over : Int} (h : IsSorter w B g most last now begun over) :
    Calls Try.prog 25 #[.pointer (some ⟨g, 0, none⟩)] w fun e w' => e = .returned (.tuple #[]) ∧ IsSorter w' B g most [] [] false 0 ∧ Kp B [95, 5] w w' := by
  obtain ⟨A1, A2, c1, c2, hb, hg, rest⟩ := id h
  have h0 : w.cell? ⟨g, 0, none⟩ = some (.int .i64 most) := blk_cell hb 0
  have h1 : w.cell? ⟨g, 1, none⟩ = some (.slice A1 last.length c1) := blk_cell hb 1
  have h2 : w.cell? ⟨g, 2, none⟩ = some (.slice A2 now.length c2) := blk_cell hb 2
  have h3 : w.cell? ⟨g, 3, none⟩ = some (.bool begun) := blk_cell hb 3
  have h4 : w.cell? ⟨g, 4, none⟩ = some (.int .i64 over) := blk_cell hb 4
  have f0 := blk_frozen hb 0
  have f1 := blk_frozen hb 1
  have f2 := blk_frozen hb 2
  have f3 := blk_frozen hb 3
  have f4 := blk_frozen hb 4
  have HB := Lib.hid hb
  have HG := Lib.hid hg
  have H := Lib.hid h
  clear h hb rest hg
  go_enter Try.func25, Try.ntmps25
  go_wp2_with fail
  go_region
  go_wp2
  go_end0
  have b0 := blk_set HB.out 0 (.int .i64 most)
  have b1 := blk_set b0 1 (.slice A1 0 c1)
  have b2 := blk_set b1 2 (.slice A2 0 c2)
  have b3 := blk_set b2 3 (.bool false)
  have b4 := blk_set b3 4 (.int .i64 0)
  refine ⟨rfl, sorter_reset H.out HB.out b4 (fun k hk => ?_), ((((((Kp.refl B _ w).setCell HB.out HG.out (.inl (by simp))).setCell b0 HG.out (.inl (by simp))).setCell b1 HG.out (.inl (by simp))).setCell b2 HG.out (.inl (by simp))).setCell b3 HG.out (.inl (by simp))).drew⟩
  exact (Below.heap_setCell _ _ _ _ hk).trans ((Below.heap_setCell _ _ _ _ hk).trans ((Below.heap_setCell _ _ _ _ hk).trans ((Below.heap_setCell _ _ _ _ hk).trans (Below.heap_setCell _ _ _ _ hk))))
end Go.Proofs.Ytkabmmpccfeffaa
