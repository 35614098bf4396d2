/- Layer 14 (text.State.Push): by contract. -/
import Derived.Test.YtkabmmpccfeffaaVText
import Derived.Lib.Bytealg
namespace Go.Proofs.Ytkabmmpccfeffaa
open Go.RowKit
set_option linter.unusedVariables false
set_option linter.unusedSimpArgs false
set_option maxRecDepth 100000 in
set_option maxHeartbeats 1000000 in
theorem sliteIndex_any (s : ByteArray) (c : Int) (w : World) :
    Calls Try.prog 195 #[.string s, .int .u8 c] w fun e w' => e = .returned (.int .i64 (Lib.indexByte s.data.toList c.toNat.toUInt8)) ∧ w' = w := by
  go_enter Try.func195, Try.ntmps195
  go_wp2
  rw [run_callFunc_extern Try.func199 (by kernel_rfl) (by kernel_rfl) (by kernel_rfl) (e := Extern.BytealgIndexByte.indexByte) (by kernel_rfl), Lib.run_indexByteString]
  simp only [Result.andThen]
  rw [Oper.upon_value]
  go_wp2
  go_ret
  exact ⟨rfl, rfl⟩
set_option maxRecDepth 100000 in
set_option maxHeartbeats 1000000 in
theorem strIndex_any (s : ByteArray) (c : Int) (w : World) :
    Calls Try.prog 185 #[.string s, .int .u8 c] w fun e w' => e = .returned (.int .i64 (Lib.indexByte s.data.toList c.toNat.toUInt8)) ∧ w' = w := by
  go_enter Try.func185, Try.ntmps185
  go_wp2_with (go_at_call 195; refine (sliteIndex_any _ _ _).mono ?_; rintro e w1 ⟨rfl, rfl⟩)
  go_ret
  exact ⟨rfl, rfl⟩
/-- The bytes of a PrintableString. -/
def printBytes : List UInt8 := [65, 66, 67, 68, 69, 70, 71, 72, 73, 74, 75, 76, 77, 78, 79, 80, 81, 82, 83, 84, 85, 86, 87, 88, 89, 90, 97, 98, 99, 100, 101, 102, 103, 104, 105, 106, 107, 108, 109, 110, 111, 112, 113, 114, 115, 116, 117, 118, 119, 120, 121, 122, 48, 49, 50, 51, 52, 53, 54, 55, 56, 57, 32, 39, 40, 41, 43, 44, 45, 46, 47, 58, 61, 63]
/-- May a byte stand in a PrintableString? -/
def isPrint (b : Int) : Bool := decide (0 ≤ Lib.indexByte printBytes b.toNat.toUInt8)
/-- A string's content goes on. -/
def txtPush (tag left more low high b : Int) : Option (Array Value) :=
  if (tag == 12) = true then txtUtf8 tag (left - 1) more low high b
  else if (tag == 19) = true then (if isPrint b = true then some (txtC tag (left - 1) more low high) else none)
  else if (tag == 22) = true then (if decide (b < 128) = true then some (txtC tag (left - 1) more low high) else none)
  else some (txtC tag (left - 1) more low high)
theorem txtUtf8_cells (tag left more low high b : Int) : ∃ x1 x2 x3 x4 x5 : Int, (txtUtf8 tag left more low high b).getD txtZ = #[.int .i64 x1, .int .i64 x2, .int .i64 x3, .int .u8 x4, .int .u8 x5] := by
  unfold txtUtf8
  repeat' (first | exact ⟨_, _, _, _, _, rfl⟩ | split)
theorem blk5 {w : World} {g : Nat} {t : TypeId} {a b c d e : Value} (hb : w.heap[g]? = some (.cells #[a, b, c, d, e] t (0, 0))) :
    w.cell? ⟨g, 0, none⟩ = some a ∧ w.cell? ⟨g, 1, none⟩ = some b ∧ w.cell? ⟨g, 2, none⟩ = some c ∧ w.cell? ⟨g, 3, none⟩ = some d ∧ w.cell? ⟨g, 4, none⟩ = some e ∧
    w.frozen? ⟨g, 0, none⟩ = false ∧ w.frozen? ⟨g, 1, none⟩ = false ∧ w.frozen? ⟨g, 2, none⟩ = false ∧ w.frozen? ⟨g, 3, none⟩ = false ∧ w.frozen? ⟨g, 4, none⟩ = false :=
  ⟨blk_cell hb 0, blk_cell hb 1, blk_cell hb 2, blk_cell hb 3, blk_cell hb 4, blk_frozen hb 0, blk_frozen hb 1, blk_frozen hb 2, blk_frozen hb 3, blk_frozen hb 4⟩

set_option maxRecDepth 100000 in
set_option maxHeartbeats 4000000 in
theorem txtPush_any (w : World) (tag left more low high b : Int) (h0 : 0 < left) (h1 : left ≤ 9223372036854775806) (h2 : 0 ≤ more) (h3 : more ≤ 9223372036854775806) : Calls Try.prog 160 #[.agg #[.int .i64 tag, .int .i64 left, .int .i64 more, .int .u8 low, .int .u8 high], .int .u8 b] w (StPost w txtZ (txtPush tag left more low high b)) := by
  unfold txtPush
  cases t1 : (tag == 12) with
  | true =>
    simp only [if_true]
    obtain rfl : tag = 12 := by simpa using t1
    have u8 := fun W => txtUtf8_any W 12 (left - 1) more low high b h2 h3
    unfold StPost at u8
    unfold StPost
    have hcs := txtUtf8_cells 12 (left - 1) more low high b
    generalize txtUtf8 12 (left - 1) more low high b = r at u8 hcs ⊢
    obtain ⟨x1, x2, x3, x4, x5, hcs⟩ := hcs
    rw [hcs] at u8 ⊢
    have U8 := Lib.hid u8
    clear u8 t1 hcs
    go_enter Try.func160, Try.ntmps160
    go_wp2_with fail
    refine (U8.out _).mono ?_
    rintro e w1 ⟨rfl, hb⟩
    have hbk : w1.heap[w.heap.size + 1]? = some (.cells #[.int .i64 0, .int .i64 0, .int .i64 0, .int .u8 0, .int .u8 0] 219 (0, 0)) := (hb.block _ (by simp)).trans (heap_alloc2_new w _ _)
    obtain ⟨a0, a1, a2, a3, a4, a5, a6, a7, a8, a9⟩ := blk5 hbk
    have hz : w.heap.size + 1 < w1.heap.size := by have := hb.size; simp at this; omega
    have hbb := (((Below.refl w.heap.size w).alloc (Nat.le_refl _) (.cells #[.int .i64 12, .int .i64 (left - 1), .int .i64 more, .int .u8 low, .int .u8 high] 219)).alloc (by simp) (.cells #[.int .i64 0, .int .i64 0, .int .i64 0, .int .u8 0, .int .u8 0] 219)).trans (hb.mono (by simp; omega))
    have HB := Lib.hid hbb
    have HBK := Lib.hid hbk
    clear hb hbk hbb
    go_wp2_with fail
    exact bodyPost_ret (results_cell_tmp1 rfl _ _ _ _ _ _ _ rfl (blk_set (blk_set (blk_set (blk_set (blk_set HBK.out 0 _) 1 _) 2 _) 3 _) 4 _) Try.underlying219 rfl info_txt) rfl ⟨rfl, ((((HB.out.setCell (by simp) _).setCell (by simp) _).setCell (by simp) _).setCell (by simp) _).setCell (by simp) _⟩
  | false =>
    simp only [Bool.false_eq_true, if_false]
    cases t2 : (tag == 19) with
    | true =>
      obtain rfl : tag = 19 := by simpa using t2
      clear t1 t2
      have hip : decide (0 ≤ Lib.indexByte printBytes b.toNat.toUInt8) = isPrint b := rfl
      simp only [if_true]
      generalize isPrint b = ip at hip ⊢
      have HIP := Lib.hid hip
      clear hip
      have sx := fun W => strIndex_any ⟨printBytes.toArray⟩ b W
      have SX := Lib.hid sx
      clear sx
      cases ip
      all_goals
        simp only [if_true, Bool.false_eq_true, if_false]
        go_enter Try.func160, Try.ntmps160
        go_wp2_with fail
        refine (SX.out _).mono ?_
        rintro e w1 ⟨rfl, rfl⟩
        have hip := HIP.out
        go_wp2_with fail
        exact bodyPost_ret (results_cell_tmp1 rfl _ _ _ _ _ _ _ rfl (heap_alloc2_new w _ _) Try.underlying219 rfl info_txt) rfl ⟨rfl, ((Below.refl _ _).alloc (Nat.le_refl _) _).alloc (by simp) _⟩
    | false =>
      cases t3 : (tag == 22) with
      | true =>
        cases t4 : decide (b < 128) with
        | true =>
          simp only [if_true, Bool.false_eq_true, if_false]
          go_enter Try.func160, Try.ntmps160
          go_wp2_with fail
          exact bodyPost_ret (results_cell_tmp1 rfl _ _ _ _ _ _ _ rfl (heap_alloc2_new w _ _) Try.underlying219 rfl info_txt) rfl ⟨rfl, ((Below.refl _ _).alloc (Nat.le_refl _) _).alloc (by simp) _⟩
        | false =>
          simp only [if_true, Bool.false_eq_true, if_false]
          go_enter Try.func160, Try.ntmps160
          go_wp2_with fail
          exact bodyPost_ret (results_cell_tmp1 rfl _ _ _ _ _ _ _ rfl (heap_alloc2_new w _ _) Try.underlying219 rfl info_txt) rfl ⟨rfl, ((Below.refl _ _).alloc (Nat.le_refl _) _).alloc (by simp) _⟩
      | false =>
        simp only [Bool.false_eq_true, if_false]
        go_enter Try.func160, Try.ntmps160
        go_wp2_with fail
        exact bodyPost_ret (results_cell_tmp1 rfl _ _ _ _ _ _ _ rfl (heap_alloc2_new w _ _) Try.underlying219 rfl info_txt) rfl ⟨rfl, ((Below.refl _ _).alloc (Nat.le_refl _) _).alloc (by simp) _⟩
end Go.Proofs.Ytkabmmpccfeffaa
