/- package gantletref16, by contracts. -/
import Derived.Test.YtkabmmpccfeffaaProg
import Derived.Test.YtkabmmpccfeffaaApp
import Derived.BigQuiet
import Derived.BigRegion
import Derived.Deep.QuietTactic
import Derived.Deep.RegionHeld3
import Derived.Deep.RegionLaw
import Derived.Deep.DrawnRows
namespace Go.Proofs.Ytkabmmpccfeffaa
open Go.RowKit
set_option linter.unusedVariables false
set_option linter.unusedSimpArgs false
attribute [local go_sem ↓] Go.wp_at_zero Go.wp_at_succ

theorem info_str : (Try.prog.info? 9).map (fun i => (i.zero, i.size, i.bytes)) = some (some (.string ByteArray.empty), 1, 16) := by kernel_rfl

def strs (xs : List ByteArray) : List Value := xs.map fun x => .string x

/-- The reference's Sorter lies at block g. -/
def IsRef (w : World) (B g most : Nat) (all : List ByteArray) (E : Int) : Prop :=
  ∃ A c, w.heap[g]? = some (.cells #[.int .i64 most, .slice A all.length c, .int .i64 E] 97 (0, 0)) ∧ B ≤ g ∧
    w.ownsRow B 9 1 (.slice A all.length c) all.length (strs all) ∧ all ≠ [] ∧ (∀ s ∈ all, s.size ≤ 65536)

theorem conv_one (b : Int) : ∀ (W : World) (k : Nat), W.cell? ⟨k, 0, none⟩ = some (.int .u8 b) → (convert 93 9 (.slice (some ⟨k, 0, none⟩) 1 1)).run Try.prog W = .ok (.string (strOfNums [b])) W := by
  intro W k h
  refine run_convert_bytes_arg W 93 5 Try.underlying93 Try.underlying5 k 0 1 1 [b] rfl (fun i hi => ?_) 9 Try.underlying9
  obtain rfl : i = 0 := by omega
  exact h

set_option maxRecDepth 100000 in
set_option maxHeartbeats 1000000 in
theorem rpush_over {w : World} {B g most : Nat} {all : List ByteArray} {E : Int} (h : IsRef w B g most all E) (b : Int) (ho : E ≠ 0) :
    Calls Try.prog 22 #[.pointer (some ⟨g, 0, none⟩), .int .u8 b] w fun e w' => e = .returned (.int .i64 E) ∧ IsRef w' B g most all E ∧ Kp B [97, 9] w w' := by
  obtain ⟨A, c, hb, rest⟩ := id h
  have h2 : w.cell? ⟨g, 2, none⟩ = some (.int .i64 E) := blk_cell hb 2
  have ho' : (E != 0) = true := by simpa using ho
  have H := Lib.hid h
  clear h hb rest
  go_enter Try.func22, Try.ntmps22
  go_wp2_with fail
  go_ret
  exact ⟨rfl, H.out, Kp.refl _ _ _⟩

set_option maxRecDepth 100000 in
set_option maxHeartbeats 1000000 in
theorem rpush_full {w : World} {B g most : Nat} {pre : List ByteArray} {last : ByteArray} (h : IsRef w B g most (pre ++ [last]) 0) (b : Int) (ho : most < last.size + 1) (hN : pre.length ≤ 1000) (hB : B ≤ w.heap.size) :
    Calls Try.prog 22 #[.pointer (some ⟨g, 0, none⟩), .int .u8 b] w fun e w' => e = .returned (.int .i64 11) ∧ IsRef w' B g most (pre ++ [last]) 11 ∧ Kp B [97, 9] w w' := by
  obtain ⟨A, c, hb, hg, o1, hne, hs⟩ := id h
  have hl : (pre ++ [last]).length = pre.length + 1 := by simp
  obtain ⟨ad, rfl, hcell⟩ := (Reads.of_own o1).at_ (j := pre.length) (u := .string last) (by simp [strs]) (by omega)
  have h0 : w.cell? ⟨g, 0, none⟩ = some (.int .i64 most) := blk_cell hb 0
  have h1 : w.cell? ⟨g, 1, none⟩ = some (.slice (some ad) (pre.length + 1) c) := by rw [← hl]; exact blk_cell hb 1
  have h2 : w.cell? ⟨g, 2, none⟩ = some (.int .i64 0) := blk_cell hb 2
  have f2 := blk_frozen hb 2
  have hsz : last.size ≤ 65536 := hs last (by simp)
  have H := Lib.hid h
  have HB := Lib.hid hb
  have HL := Lib.hid hl
  have O1 := Lib.hid o1
  have HS := Lib.hid hs
  clear h hb o1 hs hne hl
  have hcv := conv_one b
  have hgl : g < w.heap.size := blk_lt HB.out
  have hadl : (ad.add pre.length).block < w.heap.size := World.block_lt_of_cell? w _ hcell
  have hss : (strOfNums [b]).size = 1 := strOfNums_size _
  have w1 : IntKind.i64.wrap (pre.length : Int) = pre.length := IntWalk.i64_in _ (by omega)
  have w2 : (0 : Int) ≤ pre.length := by omega
  have w3 : (pre.length : Int) < (pre.length : Int) + 1 := by omega
  have w4 : IntKind.i64.wrap ((pre.length : Int) + 1 - 1) = pre.length := IntWalk.i64_in _ (by omega) |>.trans (by omega)
  go_enter Try.func22, Try.ntmps22
  go_wp2_with fail
  go_region
  go_wp2_with fail
  go_ret
  have b2 := blk_set HB.out 2 (.int .i64 11)
  refine ⟨rfl, ⟨some ad, c, (blk_alloc b2 _), hg, ?_, by simp, HS.out⟩, ((Kp.refl B _ w).setCell HB.out hg (.inl (by simp))).alloc _ |>.drew⟩
  exact (own_setCell O1.out (own_ne O1.out HB.out (by decide)) _).alloc _

end Go.Proofs.Ytkabmmpccfeffaa
