/- Layer 13 (when.State.Push): by contract. -/
import Derived.Test.YtkabmmpccfeffaaVLate
namespace Go.Proofs.Ytkabmmpccfeffaa
open Go.RowKit
set_option linter.unusedVariables false
set_option linter.unusedSimpArgs false
/-- A date with the digits that a year's two digits stand for. -/
def whnD0 (date : ByteArray) (utc : Bool) (b : Int) : ByteArray := if (utc && date.toList.isEmpty) = true then (if decide (53 ≤ b) = true then ⟨#[49, 57]⟩ else ⟨#[50, 48]⟩) else date
/-- A date goes on by a digit. -/
def whnNext (d : ByteArray) (left : Int) (utc : Bool) : Option (Array Value) :=
  if mayB d = true then (if utc = true then some (whnC d left utc) else if lateB d = true then some (whnC d left utc) else none) else none
def whnPush (date : ByteArray) (left : Int) (utc : Bool) (b : Int) : Option (Array Value) :=
  if (left - 1 == 0) = true then (if (b == 90) = true then some (whnC date (left - 1) utc) else none)
  else if decide (b < 48) = true then none else if decide (57 < b) = true then none
  else whnNext (whnD0 date utc b ++ strOfNums [b]) (left - 1) utc
theorem blk3 {w : World} {g : Nat} {t : TypeId} {a b c : Value} (hb : w.heap[g]? = some (.cells #[a, b, c] t (0, 0))) :
    w.cell? ⟨g, 0, none⟩ = some a ∧ w.cell? ⟨g, 1, none⟩ = some b ∧ w.cell? ⟨g, 2, none⟩ = some c ∧ w.frozen? ⟨g, 0, none⟩ = false ∧ w.frozen? ⟨g, 1, none⟩ = false ∧ w.frozen? ⟨g, 2, none⟩ = false :=
  ⟨blk_cell hb 0, blk_cell hb 1, blk_cell hb 2, blk_frozen hb 0, blk_frozen hb 1, blk_frozen hb 2⟩
set_option maxRecDepth 100000 in
set_option maxHeartbeats 1000000 in
theorem whnPush_last (w : World) (date : ByteArray) (left : Int) (utc : Bool) (b : Int) (h0 : 0 < left) (h1 : left ≤ 9223372036854775806) (hl : (left - 1 == 0) = true) : Calls Try.prog 182 #[.agg #[.string date, .int .i64 left, .bool utc], .int .u8 b] w (StPost w whnZ (whnPush date left utc b)) := by
  cases t1 : (b == 90) with
  | true =>
    have t1a : (b != 90) = false := by rw [bne, t1]; rfl
    have hr : whnPush date left utc b = some (whnC date (left - 1) utc) := by unfold whnPush; rw [if_pos hl, if_pos t1]
    rw [hr]; clear hr
    go_enter Try.func182, Try.ntmps182
    go_wp2_with fail
    exact bodyPost_ret (results_cell_tmp1 rfl _ _ _ _ _ _ _ rfl (heap_alloc2_new w _ _) Try.underlying214 rfl info_whn) rfl ⟨rfl, ((Below.refl _ _).alloc (Nat.le_refl _) _).alloc (by simp) _⟩
  | false =>
    have t1a : (b != 90) = true := by rw [bne, t1]; rfl
    have hr : whnPush date left utc b = none := by unfold whnPush; rw [if_pos hl, if_neg (by rw [t1]; decide)]
    rw [hr]; clear hr
    go_enter Try.func182, Try.ntmps182
    go_wp2_with fail
    exact bodyPost_ret (results_cell_tmp1 rfl _ _ _ _ _ _ _ rfl (heap_alloc2_new w _ _) Try.underlying214 rfl info_whn) rfl ⟨rfl, ((Below.refl _ _).alloc (Nat.le_refl _) _).alloc (by simp) _⟩
set_option maxRecDepth 100000 in
set_option maxHeartbeats 1000000 in
theorem whnPush_no (w : World) (date : ByteArray) (left : Int) (utc : Bool) (b : Int) (h0 : 0 < left) (h1 : left ≤ 9223372036854775806) (hl : (left - 1 == 0) = false) (hb : b < 48 ∨ 57 < b) : Calls Try.prog 182 #[.agg #[.string date, .int .i64 left, .bool utc], .int .u8 b] w (StPost w whnZ (whnPush date left utc b)) := by
  have hr : whnPush date left utc b = none := by
    unfold whnPush
    rw [if_neg (by rw [hl]; decide)]
    rcases hb with h | h
    · rw [if_pos (decide_eq_true h)]
    · rw [if_neg (by rw [decide_eq_false (by omega)]; decide), if_pos (decide_eq_true h)]
  rw [hr]; clear hr
  have key : decide (b < 48) = true ∨ decide (b < 48) = false ∧ decide (57 < b) = true := by
    rcases hb with h | h
    · exact .inl (decide_eq_true h)
    · exact .inr ⟨decide_eq_false (by omega), decide_eq_true h⟩
  clear hb
  rcases key with t1 | ⟨t1, t2⟩
  all_goals
    go_enter Try.func182, Try.ntmps182
    go_wp2_with fail
    exact bodyPost_ret (results_cell_tmp1 rfl _ _ _ _ _ _ _ rfl (heap_alloc2_new w _ _) Try.underlying214 rfl info_whn) rfl ⟨rfl, ((Below.refl _ _).alloc (Nat.le_refl _) _).alloc (by simp) _⟩

set_option maxRecDepth 100000 in
set_option maxHeartbeats 2000000 in
theorem whnPush_more (w : World) (date : ByteArray) (left : Int) (b : Int) (h0 : 0 < left) (h1 : left ≤ 9223372036854775806) (hl : (left - 1 == 0) = false) (t1 : decide (b < 48) = false) (t2 : decide (57 < b) = false) (t3 : date.toList.isEmpty = false) (hd : AllDig (date ++ strOfNums [b])) (hs : ((date ++ strOfNums [b])).size ≤ 14) : Calls Try.prog 182 #[.agg #[.string date, .int .i64 left, .bool true], .int .u8 b] w (StPost w whnZ (whnPush date left true b)) := by
  have hr : whnPush date left true b = whnNext (date ++ strOfNums [b]) (left - 1) true := by
    unfold whnPush whnD0
    rw [if_neg (by rw [hl]; decide), if_neg (by rw [t1]; decide), if_neg (by rw [t2]; decide)]
    simp only [t3, Bool.true_and, Bool.false_and, if_true, Bool.false_eq_true, if_false]
  rw [hr]; clear hr
  have hcv := own_string (P := Try.prog) Try.underlying93 Try.underlying5 Try.underlying9 (xs := [b]) (own_at (W := ((w.alloc (.cells #[.string date, .int .i64 (left - 1), .bool true] 214)).alloc (.cells #[.string ⟨#[]⟩, .int .i64 0, .bool false] 214)).alloc (.cells #[.int .u8 b] 5)) (k := w.heap.size + 1 + 1) (base := w.heap.size) (size := 1) (n := 1) (xs := nums [b]) (heap_new (by simp)) (by omega) (by unfold maxLen; omega) rfl)
  have hdz : date.size ≤ 14 := by simp at hs; omega
  have hsz : date.size + (strOfNums [b]).size ≤ 9223372036854775807 := by have := strOfNums_size [b]; simp at this; omega
  have my := fun W => may_any W (date ++ strOfNums [b]) hs hd
  have lt := fun W => late_any W (date ++ strOfNums [b]) hs hd
  unfold whnNext
  simp only [Bool.false_eq_true, if_true, if_false]
  generalize hD : (date ++ strOfNums [b]) = d at my lt ⊢
  cases hm : mayB d with
  | false =>
    rw [hm] at my
    simp only [Bool.false_eq_true, if_false]
    have MY := Lib.hid my
    clear my lt hm hd hs
    subst hD
    go_enter Try.func182, Try.ntmps182
    go_wp2_with fail
    refine (MY.out _).mono ?_
    rintro e w1 ⟨rfl, hb1⟩
    have hbs : w1.heap[w.heap.size]? = some (.cells #[.string (date ++ strOfNums [b]), .int .i64 (left - 1), .bool true] 214 (0, 0)) := (hb1.block _ (by simp; omega)).trans (blk_alloc (heap_alloc2_old w _ _) _)
    have hbz : w1.heap[w.heap.size + 1]? = some (.cells #[.string ⟨#[]⟩, .int .i64 0, .bool false] 214 (0, 0)) := (hb1.block _ (by simp)).trans (blk_alloc (heap_alloc2_new w _ _) _)
    obtain ⟨a0, a1, a2, a3, a4, a5⟩ := blk3 hbs
    obtain ⟨c0, c1, c2, c3, c4, c5⟩ := blk3 hbz
    have hbb := ((((Below.refl w.heap.size w).alloc (Nat.le_refl _) (.cells #[.string (date ++ strOfNums [b]), .int .i64 (left - 1), .bool true] 214)).alloc (by simp) (.cells #[.string ⟨#[]⟩, .int .i64 0, .bool false] 214)).alloc (by simp; omega) (.cells #[.int .u8 b] 5)).trans (hb1.mono (by simp; omega))
    have hz : w.heap.size + 1 < w1.heap.size := by have := hb1.size; simp at this; omega
    have HBB := Lib.hid hbb
    have HBZ := Lib.hid hbz
    clear hbs hbz hbb hb1 hcv
    go_wp2_with fail
    exact bodyPost_ret (results_cell_tmp1 rfl _ _ _ _ _ _ _ rfl (blk_set (blk_set (blk_set HBZ.out 0 _) 1 _) 2 _) Try.underlying214 rfl info_whn) rfl ⟨rfl, ((HBB.out.setCell (by simp) _).setCell (by simp) _).setCell (by simp) _⟩
  | true =>
    rw [hm] at my
    simp only [if_true]
    have MY := Lib.hid my
    clear my lt hm hd hs
    subst hD
    go_enter Try.func182, Try.ntmps182
    go_wp2_with fail
    refine (MY.out _).mono ?_
    rintro e w1 ⟨rfl, hb1⟩
    have hbs : w1.heap[w.heap.size]? = some (.cells #[.string (date ++ strOfNums [b]), .int .i64 (left - 1), .bool true] 214 (0, 0)) := (hb1.block _ (by simp; omega)).trans (blk_alloc (heap_alloc2_old w _ _) _)
    have hbz : w1.heap[w.heap.size + 1]? = some (.cells #[.string ⟨#[]⟩, .int .i64 0, .bool false] 214 (0, 0)) := (hb1.block _ (by simp)).trans (blk_alloc (heap_alloc2_new w _ _) _)
    obtain ⟨a0, a1, a2, a3, a4, a5⟩ := blk3 hbs
    obtain ⟨c0, c1, c2, c3, c4, c5⟩ := blk3 hbz
    have hbb := ((((Below.refl w.heap.size w).alloc (Nat.le_refl _) (.cells #[.string (date ++ strOfNums [b]), .int .i64 (left - 1), .bool true] 214)).alloc (by simp) (.cells #[.string ⟨#[]⟩, .int .i64 0, .bool false] 214)).alloc (by simp; omega) (.cells #[.int .u8 b] 5)).trans (hb1.mono (by simp; omega))
    have hz : w.heap.size + 1 < w1.heap.size := by have := hb1.size; simp at this; omega
    have HBB := Lib.hid hbb
    have HBZ := Lib.hid hbz
    clear hbs hbz hbb hb1 hcv
    go_wp2_with fail
    exact bodyPost_ret (results_cell_tmp1 rfl _ _ _ _ _ _ _ rfl (blk_set (blk_set (blk_set HBZ.out 0 _) 1 _) 2 _) Try.underlying214 rfl info_whn) rfl ⟨rfl, ((HBB.out.setCell (by simp) _).setCell (by simp) _).setCell (by simp) _⟩

set_option maxRecDepth 100000 in
set_option maxHeartbeats 2000000 in
theorem whnPush_19 (w : World) (date : ByteArray) (left : Int) (b : Int) (h0 : 0 < left) (h1 : left ≤ 9223372036854775806) (hl : (left - 1 == 0) = false) (t1 : decide (b < 48) = false) (t2 : decide (57 < b) = false) (t3 : date.toList.isEmpty = true) (t4 : decide (53 ≤ b) = true) (hd : AllDig ((⟨#[49, 57]⟩ : ByteArray) ++ strOfNums [b])) (hs : (((⟨#[49, 57]⟩ : ByteArray) ++ strOfNums [b])).size ≤ 14) : Calls Try.prog 182 #[.agg #[.string date, .int .i64 left, .bool true], .int .u8 b] w (StPost w whnZ (whnPush date left true b)) := by
  have hr : whnPush date left true b = whnNext ((⟨#[49, 57]⟩ : ByteArray) ++ strOfNums [b]) (left - 1) true := by
    unfold whnPush whnD0
    rw [if_neg (by rw [hl]; decide), if_neg (by rw [t1]; decide), if_neg (by rw [t2]; decide)]
    simp only [t3, t4, Bool.true_and, Bool.false_and, if_true, Bool.false_eq_true, if_false]
  rw [hr]; clear hr
  have hcv := own_string (P := Try.prog) Try.underlying93 Try.underlying5 Try.underlying9 (xs := [b]) (own_at (W := ((w.alloc (.cells #[.string (⟨#[49, 57]⟩ : ByteArray), .int .i64 (left - 1), .bool true] 214)).alloc (.cells #[.string ⟨#[]⟩, .int .i64 0, .bool false] 214)).alloc (.cells #[.int .u8 b] 5)) (k := w.heap.size + 1 + 1) (base := w.heap.size) (size := 1) (n := 1) (xs := nums [b]) (heap_new (by simp)) (by omega) (by unfold maxLen; omega) rfl)
  have my := fun W => may_any W ((⟨#[49, 57]⟩ : ByteArray) ++ strOfNums [b]) hs hd
  have lt := fun W => late_any W ((⟨#[49, 57]⟩ : ByteArray) ++ strOfNums [b]) hs hd
  unfold whnNext
  simp only [Bool.false_eq_true, if_true, if_false]
  generalize hD : ((⟨#[49, 57]⟩ : ByteArray) ++ strOfNums [b]) = d at my lt ⊢
  cases hm : mayB d with
  | false =>
    rw [hm] at my
    simp only [Bool.false_eq_true, if_false]
    have MY := Lib.hid my
    clear my lt hm hd hs
    subst hD
    go_enter Try.func182, Try.ntmps182
    go_wp2_with fail
    refine (MY.out _).mono ?_
    rintro e w1 ⟨rfl, hb1⟩
    have hbs : w1.heap[w.heap.size]? = some (.cells #[.string ((⟨#[49, 57]⟩ : ByteArray) ++ strOfNums [b]), .int .i64 (left - 1), .bool true] 214 (0, 0)) := (hb1.block _ (by simp; omega)).trans (blk_alloc (heap_alloc2_old w _ _) _)
    have hbz : w1.heap[w.heap.size + 1]? = some (.cells #[.string ⟨#[]⟩, .int .i64 0, .bool false] 214 (0, 0)) := (hb1.block _ (by simp)).trans (blk_alloc (heap_alloc2_new w _ _) _)
    obtain ⟨a0, a1, a2, a3, a4, a5⟩ := blk3 hbs
    obtain ⟨c0, c1, c2, c3, c4, c5⟩ := blk3 hbz
    have hbb := ((((Below.refl w.heap.size w).alloc (Nat.le_refl _) (.cells #[.string ((⟨#[49, 57]⟩ : ByteArray) ++ strOfNums [b]), .int .i64 (left - 1), .bool true] 214)).alloc (by simp) (.cells #[.string ⟨#[]⟩, .int .i64 0, .bool false] 214)).alloc (by simp; omega) (.cells #[.int .u8 b] 5)).trans (hb1.mono (by simp; omega))
    have hz : w.heap.size + 1 < w1.heap.size := by have := hb1.size; simp at this; omega
    have HBB := Lib.hid hbb
    have HBZ := Lib.hid hbz
    clear hbs hbz hbb hb1 hcv
    go_wp2_with fail
    exact bodyPost_ret (results_cell_tmp1 rfl _ _ _ _ _ _ _ rfl (blk_set (blk_set (blk_set HBZ.out 0 _) 1 _) 2 _) Try.underlying214 rfl info_whn) rfl ⟨rfl, ((HBB.out.setCell (by simp) _).setCell (by simp) _).setCell (by simp) _⟩
  | true =>
    rw [hm] at my
    simp only [if_true]
    have MY := Lib.hid my
    clear my lt hm hd hs
    subst hD
    go_enter Try.func182, Try.ntmps182
    go_wp2_with fail
    refine (MY.out _).mono ?_
    rintro e w1 ⟨rfl, hb1⟩
    have hbs : w1.heap[w.heap.size]? = some (.cells #[.string ((⟨#[49, 57]⟩ : ByteArray) ++ strOfNums [b]), .int .i64 (left - 1), .bool true] 214 (0, 0)) := (hb1.block _ (by simp; omega)).trans (blk_alloc (heap_alloc2_old w _ _) _)
    have hbz : w1.heap[w.heap.size + 1]? = some (.cells #[.string ⟨#[]⟩, .int .i64 0, .bool false] 214 (0, 0)) := (hb1.block _ (by simp)).trans (blk_alloc (heap_alloc2_new w _ _) _)
    obtain ⟨a0, a1, a2, a3, a4, a5⟩ := blk3 hbs
    obtain ⟨c0, c1, c2, c3, c4, c5⟩ := blk3 hbz
    have hbb := ((((Below.refl w.heap.size w).alloc (Nat.le_refl _) (.cells #[.string ((⟨#[49, 57]⟩ : ByteArray) ++ strOfNums [b]), .int .i64 (left - 1), .bool true] 214)).alloc (by simp) (.cells #[.string ⟨#[]⟩, .int .i64 0, .bool false] 214)).alloc (by simp; omega) (.cells #[.int .u8 b] 5)).trans (hb1.mono (by simp; omega))
    have hz : w.heap.size + 1 < w1.heap.size := by have := hb1.size; simp at this; omega
    have HBB := Lib.hid hbb
    have HBZ := Lib.hid hbz
    clear hbs hbz hbb hb1 hcv
    go_wp2_with fail
    exact bodyPost_ret (results_cell_tmp1 rfl _ _ _ _ _ _ _ rfl (blk_set (blk_set (blk_set HBZ.out 0 _) 1 _) 2 _) Try.underlying214 rfl info_whn) rfl ⟨rfl, ((HBB.out.setCell (by simp) _).setCell (by simp) _).setCell (by simp) _⟩

set_option maxRecDepth 100000 in
set_option maxHeartbeats 2000000 in
theorem whnPush_20 (w : World) (date : ByteArray) (left : Int) (b : Int) (h0 : 0 < left) (h1 : left ≤ 9223372036854775806) (hl : (left - 1 == 0) = false) (t1 : decide (b < 48) = false) (t2 : decide (57 < b) = false) (t3 : date.toList.isEmpty = true) (t4 : decide (53 ≤ b) = false) (hd : AllDig ((⟨#[50, 48]⟩ : ByteArray) ++ strOfNums [b])) (hs : (((⟨#[50, 48]⟩ : ByteArray) ++ strOfNums [b])).size ≤ 14) : Calls Try.prog 182 #[.agg #[.string date, .int .i64 left, .bool true], .int .u8 b] w (StPost w whnZ (whnPush date left true b)) := by
  have hr : whnPush date left true b = whnNext ((⟨#[50, 48]⟩ : ByteArray) ++ strOfNums [b]) (left - 1) true := by
    unfold whnPush whnD0
    rw [if_neg (by rw [hl]; decide), if_neg (by rw [t1]; decide), if_neg (by rw [t2]; decide)]
    simp only [t3, t4, Bool.true_and, Bool.false_and, if_true, Bool.false_eq_true, if_false]
  rw [hr]; clear hr
  have hcv := own_string (P := Try.prog) Try.underlying93 Try.underlying5 Try.underlying9 (xs := [b]) (own_at (W := ((w.alloc (.cells #[.string (⟨#[50, 48]⟩ : ByteArray), .int .i64 (left - 1), .bool true] 214)).alloc (.cells #[.string ⟨#[]⟩, .int .i64 0, .bool false] 214)).alloc (.cells #[.int .u8 b] 5)) (k := w.heap.size + 1 + 1) (base := w.heap.size) (size := 1) (n := 1) (xs := nums [b]) (heap_new (by simp)) (by omega) (by unfold maxLen; omega) rfl)
  have my := fun W => may_any W ((⟨#[50, 48]⟩ : ByteArray) ++ strOfNums [b]) hs hd
  have lt := fun W => late_any W ((⟨#[50, 48]⟩ : ByteArray) ++ strOfNums [b]) hs hd
  unfold whnNext
  simp only [Bool.false_eq_true, if_true, if_false]
  generalize hD : ((⟨#[50, 48]⟩ : ByteArray) ++ strOfNums [b]) = d at my lt ⊢
  cases hm : mayB d with
  | false =>
    rw [hm] at my
    simp only [Bool.false_eq_true, if_false]
    have MY := Lib.hid my
    clear my lt hm hd hs
    subst hD
    go_enter Try.func182, Try.ntmps182
    go_wp2_with fail
    refine (MY.out _).mono ?_
    rintro e w1 ⟨rfl, hb1⟩
    have hbs : w1.heap[w.heap.size]? = some (.cells #[.string ((⟨#[50, 48]⟩ : ByteArray) ++ strOfNums [b]), .int .i64 (left - 1), .bool true] 214 (0, 0)) := (hb1.block _ (by simp; omega)).trans (blk_alloc (heap_alloc2_old w _ _) _)
    have hbz : w1.heap[w.heap.size + 1]? = some (.cells #[.string ⟨#[]⟩, .int .i64 0, .bool false] 214 (0, 0)) := (hb1.block _ (by simp)).trans (blk_alloc (heap_alloc2_new w _ _) _)
    obtain ⟨a0, a1, a2, a3, a4, a5⟩ := blk3 hbs
    obtain ⟨c0, c1, c2, c3, c4, c5⟩ := blk3 hbz
    have hbb := ((((Below.refl w.heap.size w).alloc (Nat.le_refl _) (.cells #[.string ((⟨#[50, 48]⟩ : ByteArray) ++ strOfNums [b]), .int .i64 (left - 1), .bool true] 214)).alloc (by simp) (.cells #[.string ⟨#[]⟩, .int .i64 0, .bool false] 214)).alloc (by simp; omega) (.cells #[.int .u8 b] 5)).trans (hb1.mono (by simp; omega))
    have hz : w.heap.size + 1 < w1.heap.size := by have := hb1.size; simp at this; omega
    have HBB := Lib.hid hbb
    have HBZ := Lib.hid hbz
    clear hbs hbz hbb hb1 hcv
    go_wp2_with fail
    exact bodyPost_ret (results_cell_tmp1 rfl _ _ _ _ _ _ _ rfl (blk_set (blk_set (blk_set HBZ.out 0 _) 1 _) 2 _) Try.underlying214 rfl info_whn) rfl ⟨rfl, ((HBB.out.setCell (by simp) _).setCell (by simp) _).setCell (by simp) _⟩
  | true =>
    rw [hm] at my
    simp only [if_true]
    have MY := Lib.hid my
    clear my lt hm hd hs
    subst hD
    go_enter Try.func182, Try.ntmps182
    go_wp2_with fail
    refine (MY.out _).mono ?_
    rintro e w1 ⟨rfl, hb1⟩
    have hbs : w1.heap[w.heap.size]? = some (.cells #[.string ((⟨#[50, 48]⟩ : ByteArray) ++ strOfNums [b]), .int .i64 (left - 1), .bool true] 214 (0, 0)) := (hb1.block _ (by simp; omega)).trans (blk_alloc (heap_alloc2_old w _ _) _)
    have hbz : w1.heap[w.heap.size + 1]? = some (.cells #[.string ⟨#[]⟩, .int .i64 0, .bool false] 214 (0, 0)) := (hb1.block _ (by simp)).trans (blk_alloc (heap_alloc2_new w _ _) _)
    obtain ⟨a0, a1, a2, a3, a4, a5⟩ := blk3 hbs
    obtain ⟨c0, c1, c2, c3, c4, c5⟩ := blk3 hbz
    have hbb := ((((Below.refl w.heap.size w).alloc (Nat.le_refl _) (.cells #[.string ((⟨#[50, 48]⟩ : ByteArray) ++ strOfNums [b]), .int .i64 (left - 1), .bool true] 214)).alloc (by simp) (.cells #[.string ⟨#[]⟩, .int .i64 0, .bool false] 214)).alloc (by simp; omega) (.cells #[.int .u8 b] 5)).trans (hb1.mono (by simp; omega))
    have hz : w.heap.size + 1 < w1.heap.size := by have := hb1.size; simp at this; omega
    have HBB := Lib.hid hbb
    have HBZ := Lib.hid hbz
    clear hbs hbz hbb hb1 hcv
    go_wp2_with fail
    exact bodyPost_ret (results_cell_tmp1 rfl _ _ _ _ _ _ _ rfl (blk_set (blk_set (blk_set HBZ.out 0 _) 1 _) 2 _) Try.underlying214 rfl info_whn) rfl ⟨rfl, ((HBB.out.setCell (by simp) _).setCell (by simp) _).setCell (by simp) _⟩

set_option maxRecDepth 100000 in
set_option maxHeartbeats 2000000 in
theorem whnPush_gen (w : World) (date : ByteArray) (left : Int) (b : Int) (h0 : 0 < left) (h1 : left ≤ 9223372036854775806) (hl : (left - 1 == 0) = false) (t1 : decide (b < 48) = false) (t2 : decide (57 < b) = false)  (hd : AllDig (date ++ strOfNums [b])) (hs : ((date ++ strOfNums [b])).size ≤ 14) : Calls Try.prog 182 #[.agg #[.string date, .int .i64 left, .bool false], .int .u8 b] w (StPost w whnZ (whnPush date left false b)) := by
  have hr : whnPush date left false b = whnNext (date ++ strOfNums [b]) (left - 1) false := by
    unfold whnPush whnD0
    rw [if_neg (by rw [hl]; decide), if_neg (by rw [t1]; decide), if_neg (by rw [t2]; decide)]
    simp only [Bool.true_and, Bool.false_and, if_true, Bool.false_eq_true, if_false]
  rw [hr]; clear hr
  have hcv := own_string (P := Try.prog) Try.underlying93 Try.underlying5 Try.underlying9 (xs := [b]) (own_at (W := ((w.alloc (.cells #[.string date, .int .i64 (left - 1), .bool false] 214)).alloc (.cells #[.string ⟨#[]⟩, .int .i64 0, .bool false] 214)).alloc (.cells #[.int .u8 b] 5)) (k := w.heap.size + 1 + 1) (base := w.heap.size) (size := 1) (n := 1) (xs := nums [b]) (heap_new (by simp)) (by omega) (by unfold maxLen; omega) rfl)
  have hdz : date.size ≤ 14 := by simp at hs; omega
  have hsz : date.size + (strOfNums [b]).size ≤ 9223372036854775807 := by have := strOfNums_size [b]; simp at this; omega
  have my := fun W => may_any W (date ++ strOfNums [b]) hs hd
  have lt := fun W => late_any W (date ++ strOfNums [b]) hs hd
  unfold whnNext
  simp only [Bool.false_eq_true, if_true, if_false]
  generalize hD : (date ++ strOfNums [b]) = d at my lt ⊢
  cases hm : mayB d with
  | false =>
    rw [hm] at my
    simp only [Bool.false_eq_true, if_false]
    have MY := Lib.hid my
    clear my lt hm hd hs
    subst hD
    go_enter Try.func182, Try.ntmps182
    go_wp2_with fail
    refine (MY.out _).mono ?_
    rintro e w1 ⟨rfl, hb1⟩
    have hbs : w1.heap[w.heap.size]? = some (.cells #[.string (date ++ strOfNums [b]), .int .i64 (left - 1), .bool false] 214 (0, 0)) := (hb1.block _ (by simp; omega)).trans (blk_alloc (heap_alloc2_old w _ _) _)
    have hbz : w1.heap[w.heap.size + 1]? = some (.cells #[.string ⟨#[]⟩, .int .i64 0, .bool false] 214 (0, 0)) := (hb1.block _ (by simp)).trans (blk_alloc (heap_alloc2_new w _ _) _)
    obtain ⟨a0, a1, a2, a3, a4, a5⟩ := blk3 hbs
    obtain ⟨c0, c1, c2, c3, c4, c5⟩ := blk3 hbz
    have hbb := ((((Below.refl w.heap.size w).alloc (Nat.le_refl _) (.cells #[.string (date ++ strOfNums [b]), .int .i64 (left - 1), .bool false] 214)).alloc (by simp) (.cells #[.string ⟨#[]⟩, .int .i64 0, .bool false] 214)).alloc (by simp; omega) (.cells #[.int .u8 b] 5)).trans (hb1.mono (by simp; omega))
    have hz : w.heap.size + 1 < w1.heap.size := by have := hb1.size; simp at this; omega
    have HBB := Lib.hid hbb
    have HBZ := Lib.hid hbz
    clear hbs hbz hbb hb1 hcv
    go_wp2_with fail
    exact bodyPost_ret (results_cell_tmp1 rfl _ _ _ _ _ _ _ rfl (blk_set (blk_set (blk_set HBZ.out 0 _) 1 _) 2 _) Try.underlying214 rfl info_whn) rfl ⟨rfl, ((HBB.out.setCell (by simp) _).setCell (by simp) _).setCell (by simp) _⟩
  | true =>
    rw [hm] at my
    simp only [if_true]
    cases hq : lateB d
    · skip
      rw [hq] at lt
      simp only [if_true, Bool.false_eq_true, if_false]
      have MY := Lib.hid my
      have LT := Lib.hid lt
      clear my lt hm hd hs hq
      subst hD
      go_enter Try.func182, Try.ntmps182
      go_wp2_with fail
      refine (MY.out _).mono ?_
      rintro e w1 ⟨rfl, hb1⟩
      have hbs : w1.heap[w.heap.size]? = some (.cells #[.string (date ++ strOfNums [b]), .int .i64 (left - 1), .bool false] 214 (0, 0)) := (hb1.block _ (by simp; omega)).trans (blk_alloc (heap_alloc2_old w _ _) _)
      have hbz : w1.heap[w.heap.size + 1]? = some (.cells #[.string ⟨#[]⟩, .int .i64 0, .bool false] 214 (0, 0)) := (hb1.block _ (by simp)).trans (blk_alloc (heap_alloc2_new w _ _) _)
      obtain ⟨a0, a1, a2, a3, a4, a5⟩ := blk3 hbs
      obtain ⟨c0, c1, c2, c3, c4, c5⟩ := blk3 hbz
      have hbb := ((((Below.refl w.heap.size w).alloc (Nat.le_refl _) (.cells #[.string (date ++ strOfNums [b]), .int .i64 (left - 1), .bool false] 214)).alloc (by simp) (.cells #[.string ⟨#[]⟩, .int .i64 0, .bool false] 214)).alloc (by simp; omega) (.cells #[.int .u8 b] 5)).trans (hb1.mono (by simp; omega))
      have hz : w.heap.size + 1 < w1.heap.size := by have := hb1.size; simp at this; omega
      have HBB := Lib.hid hbb
      have HBZ := Lib.hid hbz
      have HBS := Lib.hid hbs
      clear hbs hbz hbb hb1 hcv
      go_wp2_with fail
      refine (LT.out _).mono ?_
      rintro e w2 ⟨rfl, hb2⟩
      clear a0 a1 a2 a3 a4 a5 c0 c1 c2 c3 c4 c5
      have hbs := (hb2.block _ (by omega)).trans HBS.out
      have hbz := (hb2.block _ (by omega)).trans HBZ.out
      obtain ⟨a0, a1, a2, a3, a4, a5⟩ := blk3 hbs
      obtain ⟨c0, c1, c2, c3, c4, c5⟩ := blk3 hbz
      have hbb := HBB.out.trans (hb2.mono (by omega))
      have hz2 : w.heap.size + 1 < w2.heap.size := by have := hb2.size; omega
      have HBB2 := Lib.hid hbb
      have HBZ2 := Lib.hid hbz
      clear hbs hbz hbb hb2
      go_wp2_with fail
      exact bodyPost_ret (results_cell_tmp1 rfl _ _ _ _ _ _ _ rfl (blk_set (blk_set (blk_set HBZ2.out 0 _) 1 _) 2 _) Try.underlying214 rfl info_whn) rfl ⟨rfl, ((HBB2.out.setCell (by simp) _).setCell (by simp) _).setCell (by simp) _⟩
    · skip
      rw [hq] at lt
      simp only [if_true, Bool.false_eq_true, if_false]
      have MY := Lib.hid my
      have LT := Lib.hid lt
      clear my lt hm hd hs hq
      subst hD
      go_enter Try.func182, Try.ntmps182
      go_wp2_with fail
      refine (MY.out _).mono ?_
      rintro e w1 ⟨rfl, hb1⟩
      have hbs : w1.heap[w.heap.size]? = some (.cells #[.string (date ++ strOfNums [b]), .int .i64 (left - 1), .bool false] 214 (0, 0)) := (hb1.block _ (by simp; omega)).trans (blk_alloc (heap_alloc2_old w _ _) _)
      have hbz : w1.heap[w.heap.size + 1]? = some (.cells #[.string ⟨#[]⟩, .int .i64 0, .bool false] 214 (0, 0)) := (hb1.block _ (by simp)).trans (blk_alloc (heap_alloc2_new w _ _) _)
      obtain ⟨a0, a1, a2, a3, a4, a5⟩ := blk3 hbs
      obtain ⟨c0, c1, c2, c3, c4, c5⟩ := blk3 hbz
      have hbb := ((((Below.refl w.heap.size w).alloc (Nat.le_refl _) (.cells #[.string (date ++ strOfNums [b]), .int .i64 (left - 1), .bool false] 214)).alloc (by simp) (.cells #[.string ⟨#[]⟩, .int .i64 0, .bool false] 214)).alloc (by simp; omega) (.cells #[.int .u8 b] 5)).trans (hb1.mono (by simp; omega))
      have hz : w.heap.size + 1 < w1.heap.size := by have := hb1.size; simp at this; omega
      have HBB := Lib.hid hbb
      have HBZ := Lib.hid hbz
      have HBS := Lib.hid hbs
      clear hbs hbz hbb hb1 hcv
      go_wp2_with fail
      refine (LT.out _).mono ?_
      rintro e w2 ⟨rfl, hb2⟩
      clear a0 a1 a2 a3 a4 a5 c0 c1 c2 c3 c4 c5
      have hbs := (hb2.block _ (by omega)).trans HBS.out
      have hbz := (hb2.block _ (by omega)).trans HBZ.out
      obtain ⟨a0, a1, a2, a3, a4, a5⟩ := blk3 hbs
      obtain ⟨c0, c1, c2, c3, c4, c5⟩ := blk3 hbz
      have hbb := HBB.out.trans (hb2.mono (by omega))
      have hz2 : w.heap.size + 1 < w2.heap.size := by have := hb2.size; omega
      have HBB2 := Lib.hid hbb
      have HBZ2 := Lib.hid hbz
      clear hbs hbz hbb hb2
      go_wp2_with fail
      exact bodyPost_ret (results_cell_tmp1 rfl _ _ _ _ _ _ _ rfl (blk_set (blk_set (blk_set HBZ2.out 0 _) 1 _) 2 _) Try.underlying214 rfl info_whn) rfl ⟨rfl, ((HBB2.out.setCell (by simp) _).setCell (by simp) _).setCell (by simp) _⟩
theorem bytesOf_strOfNums_one (b : Int) (h0 : 0 ≤ b) (h1 : b ≤ 255) : bytesOf (strOfNums [b]) = [b] := by
  unfold bytesOf
  rw [strOfNums_data]
  simp
  omega
theorem AllDig.snoc {s : ByteArray} (h : AllDig s) (b : Int) (h0 : 48 ≤ b) (h1 : b ≤ 57) : AllDig (s ++ strOfNums [b]) := by
  intro x hx
  rw [bytesOf_append, bytesOf_strOfNums_one b (by omega) (by omega)] at hx
  rcases List.mem_append.1 hx with h2 | h2
  · exact h x h2
  · have : x = b := by simpa using h2
    subst this; exact ⟨h0, h1⟩
theorem whnPush_any (w : World) (date : ByteArray) (left : Int) (utc : Bool) (b : Int) (h0 : 0 < left) (h1 : left ≤ 9223372036854775806) (hd : AllDig date) (hs : left ≠ 1 → date.size ≤ 13) :
    Calls Try.prog 182 #[.agg #[.string date, .int .i64 left, .bool utc], .int .u8 b] w (StPost w whnZ (whnPush date left utc b)) := by
  cases hl : (left - 1 == 0) with
  | true => exact whnPush_last w date left utc b h0 h1 hl
  | false =>
    have hl1 : left ≠ 1 := by intro e; subst e; simp at hl
    have hs1 := hs hl1
    by_cases hb : b < 48 ∨ 57 < b
    · exact whnPush_no w date left utc b h0 h1 hl hb
    · have t1 : decide (b < 48) = false := decide_eq_false (by omega)
      have t2 : decide (57 < b) = false := decide_eq_false (by omega)
      have sz : ∀ d : ByteArray, (d ++ strOfNums [b]).size = d.size + 1 := fun d => by simp [strOfNums_size]
      cases utc with
      | false => exact whnPush_gen w date left b h0 h1 hl t1 t2 (hd.snoc b (by omega) (by omega)) (by rw [sz]; omega)
      | true =>
        cases t3 : date.toList.isEmpty with
        | false => exact whnPush_more w date left b h0 h1 hl t1 t2 t3 (hd.snoc b (by omega) (by omega)) (by rw [sz]; omega)
        | true =>
          cases t4 : decide (53 ≤ b) with
          | true => exact whnPush_19 w date left b h0 h1 hl t1 t2 t3 t4 (AllDig.snoc (by intro x hx; simp [bytesOf] at hx; omega) b (by omega) (by omega)) (by rw [sz]; decide)
          | false => exact whnPush_20 w date left b h0 h1 hl t1 t2 t3 t4 (AllDig.snoc (by intro x hx; simp [bytesOf] at hx; omega) b (by omega) (by omega)) (by rw [sz]; decide)
end Go.Proofs.Ytkabmmpccfeffaa
