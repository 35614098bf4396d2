/- Layer 14 (text.State): by contracts. -/
import Derived.Test.YtkabmmpccfeffaaVOid
namespace Go.Proofs.Ytkabmmpccfeffaa
open Go.RowKit
set_option linter.unusedVariables false
set_option linter.unusedSimpArgs false

def txtZ : Array Value := #[.int .i64 0, .int .i64 0, .int .i64 0, .int .u8 0, .int .u8 0]
def txtC (tag left more low high : Int) : Array Value := #[.int .i64 tag, .int .i64 left, .int .i64 more, .int .u8 low, .int .u8 high]
theorem info_txt : (Try.prog.info? 219).map (·.size) = some 5 := by kernel_rfl
def txtStart (tag n : Int) : Option (Array Value) := if decide (n < 0) = true then (none) else (some (txtC tag n 0 0 0))

set_option maxRecDepth 100000 in
set_option maxHeartbeats 4000000 in
theorem txtStart_any (w : World) (tag n : Int) : Calls Try.prog 148 #[.int .i64 tag, .int .i64 n] w (StPost w txtZ (txtStart tag n)) := by
  cases t1 : decide (n < 0) with
  | true =>
    have hr : txtStart tag n = none := by simp only [txtStart, t1, if_true, Bool.false_eq_true, if_false, Bool.true_and, Bool.false_and, Bool.and_true, Bool.and_false, Bool.or_true, Bool.or_false, Bool.true_or, Bool.false_or, Bool.not_true, Bool.not_false, Option.map_some, Option.map_none]
    rw [hr]
    clear hr
    go_enter Try.func148, Try.ntmps148
    go_wp2_with fail
    first
      | refine bodyPost_ret (results_cell_tmp1 rfl _ _ _ _ _ _ _ rfl (heap_alloc_new w _) Try.underlying219 rfl info_txt) rfl ⟨rfl, (Below.refl _ _).alloc (Nat.le_refl _) _⟩
      | refine bodyPost_ret (results_cell_tmp1 rfl _ _ _ _ _ _ _ rfl (heap_alloc2_old w _ _) Try.underlying219 rfl info_txt) rfl ⟨rfl, ((Below.refl _ _).alloc (Nat.le_refl _) _).alloc (by simp) _⟩
      | refine bodyPost_ret (results_cell_tmp1 rfl _ _ _ _ _ _ _ rfl (heap_alloc2_new w _ _) Try.underlying219 rfl info_txt) rfl ⟨rfl, ((Below.refl _ _).alloc (Nat.le_refl _) _).alloc (by simp) _⟩
      | refine bodyPost_ret (results_cell_tmp1 rfl _ _ _ _ _ _ _ rfl (heap_alloc2_old w _ _) Try.underlying219 rfl info_txt) rfl ⟨rfl, (((Below.refl _ _).alloc (Nat.le_refl _) _).alloc (by simp) _).drew⟩
      | refine bodyPost_ret (results_cell_tmp1 rfl _ _ _ _ _ _ _ rfl (heap_alloc2_new w _ _) Try.underlying219 rfl info_txt) rfl ⟨rfl, (((Below.refl _ _).alloc (Nat.le_refl _) _).alloc (by simp) _).drew⟩
      | refine bodyPost_ret (results_cell_tmp1 rfl _ _ _ _ _ _ _ rfl (heap_alloc_new w _) Try.underlying219 rfl info_txt) rfl ⟨rfl, ((Below.refl _ _).alloc (Nat.le_refl _) _).drew⟩
  | false =>
    have hr : txtStart tag n = some (txtC tag n 0 0 0) := by simp only [txtStart, t1, if_true, Bool.false_eq_true, if_false, Bool.true_and, Bool.false_and, Bool.and_true, Bool.and_false, Bool.or_true, Bool.or_false, Bool.true_or, Bool.false_or, Bool.not_true, Bool.not_false, Option.map_some, Option.map_none]
    rw [hr]
    clear hr
    go_enter Try.func148, Try.ntmps148
    go_wp2_with fail
    first
      | refine bodyPost_ret (results_cell_tmp1 rfl _ _ _ _ _ _ _ rfl (heap_alloc_new w _) Try.underlying219 rfl info_txt) rfl ⟨rfl, (Below.refl _ _).alloc (Nat.le_refl _) _⟩
      | refine bodyPost_ret (results_cell_tmp1 rfl _ _ _ _ _ _ _ rfl (heap_alloc2_old w _ _) Try.underlying219 rfl info_txt) rfl ⟨rfl, ((Below.refl _ _).alloc (Nat.le_refl _) _).alloc (by simp) _⟩
      | refine bodyPost_ret (results_cell_tmp1 rfl _ _ _ _ _ _ _ rfl (heap_alloc2_new w _ _) Try.underlying219 rfl info_txt) rfl ⟨rfl, ((Below.refl _ _).alloc (Nat.le_refl _) _).alloc (by simp) _⟩
      | refine bodyPost_ret (results_cell_tmp1 rfl _ _ _ _ _ _ _ rfl (heap_alloc2_old w _ _) Try.underlying219 rfl info_txt) rfl ⟨rfl, (((Below.refl _ _).alloc (Nat.le_refl _) _).alloc (by simp) _).drew⟩
      | refine bodyPost_ret (results_cell_tmp1 rfl _ _ _ _ _ _ _ rfl (heap_alloc2_new w _ _) Try.underlying219 rfl info_txt) rfl ⟨rfl, (((Below.refl _ _).alloc (Nat.le_refl _) _).alloc (by simp) _).drew⟩
      | refine bodyPost_ret (results_cell_tmp1 rfl _ _ _ _ _ _ _ rfl (heap_alloc_new w _) Try.underlying219 rfl info_txt) rfl ⟨rfl, ((Below.refl _ _).alloc (Nat.le_refl _) _).drew⟩
/-- The first byte of a character: how many go on, the least and the greatest one. -/
def txtFirst (b : Int) : Int × Int × Int × Bool := if decide (b < 128) = true then ((0, 128, 191, true)) else (if decide (b < 194) = true then ((0, 0, 0, false)) else (if decide (244 < b) = true then ((0, 0, 0, false)) else (if decide (b < 224) = true then ((1, 128, 191, true)) else (if (b == 224) = true then ((2, 160, 191, true)) else (if (b == 237) = true then ((2, 128, 159, true)) else (if decide (b < 240) = true then ((2, 128, 191, true)) else (if (b == 240) = true then ((3, 144, 191, true)) else (if (b == 244) = true then ((3, 128, 143, true)) else ((3, 128, 191, true))))))))))
def FirstPost (w : World) (r : Int × Int × Int × Bool) (e : Ending) (w' : World) : Prop := e = .returned (.tuple #[.int .i64 r.1, .int .u8 r.2.1, .int .u8 r.2.2.1, .bool r.2.2.2]) ∧ w' = w

set_option maxRecDepth 100000 in
set_option maxHeartbeats 4000000 in
theorem txtFirst_any (w : World) (b : Int) : Calls Try.prog 194 #[.int .u8 b] w (FirstPost w (txtFirst b)) := by
  cases t1 : decide (b < 128) with
  | true =>
    have hr : txtFirst b = (0, 128, 191, true) := by simp only [txtFirst, t1, if_true, Bool.false_eq_true, if_false, Bool.true_and, Bool.false_and, Bool.and_true, Bool.and_false, Bool.or_true, Bool.or_false, Bool.true_or, Bool.false_or, Bool.not_true, Bool.not_false, Option.map_some, Option.map_none]
    rw [hr]
    clear hr
    go_enter Try.func194, Try.ntmps194
    go_wp2_with fail
    exact bodyPost_ret (v := .tuple #[.int .i64 0, .int .u8 128, .int .u8 191, .bool true]) (by simp [results, Try.results194]) rfl ⟨rfl, rfl⟩
  | false =>
    cases t2 : decide (b < 194) with
    | true =>
      have hr : txtFirst b = (0, 0, 0, false) := by simp only [txtFirst, t1, t2, if_true, Bool.false_eq_true, if_false, Bool.true_and, Bool.false_and, Bool.and_true, Bool.and_false, Bool.or_true, Bool.or_false, Bool.true_or, Bool.false_or, Bool.not_true, Bool.not_false, Option.map_some, Option.map_none]
      rw [hr]
      clear hr
      go_enter Try.func194, Try.ntmps194
      go_wp2_with fail
      exact bodyPost_ret (v := .tuple #[.int .i64 0, .int .u8 0, .int .u8 0, .bool false]) (by simp [results, Try.results194]) rfl ⟨rfl, rfl⟩
    | false =>
      cases t3 : decide (244 < b) with
      | true =>
        have hr : txtFirst b = (0, 0, 0, false) := by simp only [txtFirst, t1, t2, t3, if_true, Bool.false_eq_true, if_false, Bool.true_and, Bool.false_and, Bool.and_true, Bool.and_false, Bool.or_true, Bool.or_false, Bool.true_or, Bool.false_or, Bool.not_true, Bool.not_false, Option.map_some, Option.map_none]
        rw [hr]
        clear hr
        go_enter Try.func194, Try.ntmps194
        go_wp2_with fail
        exact bodyPost_ret (v := .tuple #[.int .i64 0, .int .u8 0, .int .u8 0, .bool false]) (by simp [results, Try.results194]) rfl ⟨rfl, rfl⟩
      | false =>
        cases t4 : decide (b < 224) with
        | true =>
          have hr : txtFirst b = (1, 128, 191, true) := by simp only [txtFirst, t1, t2, t3, t4, if_true, Bool.false_eq_true, if_false, Bool.true_and, Bool.false_and, Bool.and_true, Bool.and_false, Bool.or_true, Bool.or_false, Bool.true_or, Bool.false_or, Bool.not_true, Bool.not_false, Option.map_some, Option.map_none]
          rw [hr]
          clear hr
          go_enter Try.func194, Try.ntmps194
          go_wp2_with fail
          exact bodyPost_ret (v := .tuple #[.int .i64 1, .int .u8 128, .int .u8 191, .bool true]) (by simp [results, Try.results194]) rfl ⟨rfl, rfl⟩
        | false =>
          cases t5 : (b == 224) with
          | true =>
            have hr : txtFirst b = (2, 160, 191, true) := by simp only [txtFirst, t1, t2, t3, t4, t5, if_true, Bool.false_eq_true, if_false, Bool.true_and, Bool.false_and, Bool.and_true, Bool.and_false, Bool.or_true, Bool.or_false, Bool.true_or, Bool.false_or, Bool.not_true, Bool.not_false, Option.map_some, Option.map_none]
            rw [hr]
            clear hr
            go_enter Try.func194, Try.ntmps194
            go_wp2_with fail
            exact bodyPost_ret (v := .tuple #[.int .i64 2, .int .u8 160, .int .u8 191, .bool true]) (by simp [results, Try.results194]) rfl ⟨rfl, rfl⟩
          | false =>
            cases t6 : (b == 237) with
            | true =>
              have hr : txtFirst b = (2, 128, 159, true) := by simp only [txtFirst, t1, t2, t3, t4, t5, t6, if_true, Bool.false_eq_true, if_false, Bool.true_and, Bool.false_and, Bool.and_true, Bool.and_false, Bool.or_true, Bool.or_false, Bool.true_or, Bool.false_or, Bool.not_true, Bool.not_false, Option.map_some, Option.map_none]
              rw [hr]
              clear hr
              go_enter Try.func194, Try.ntmps194
              go_wp2_with fail
              exact bodyPost_ret (v := .tuple #[.int .i64 2, .int .u8 128, .int .u8 159, .bool true]) (by simp [results, Try.results194]) rfl ⟨rfl, rfl⟩
            | false =>
              cases t7 : decide (b < 240) with
              | true =>
                have hr : txtFirst b = (2, 128, 191, true) := by simp only [txtFirst, t1, t2, t3, t4, t5, t6, t7, if_true, Bool.false_eq_true, if_false, Bool.true_and, Bool.false_and, Bool.and_true, Bool.and_false, Bool.or_true, Bool.or_false, Bool.true_or, Bool.false_or, Bool.not_true, Bool.not_false, Option.map_some, Option.map_none]
                rw [hr]
                clear hr
                go_enter Try.func194, Try.ntmps194
                go_wp2_with fail
                exact bodyPost_ret (v := .tuple #[.int .i64 2, .int .u8 128, .int .u8 191, .bool true]) (by simp [results, Try.results194]) rfl ⟨rfl, rfl⟩
              | false =>
                cases t8 : (b == 240) with
                | true =>
                  have hr : txtFirst b = (3, 144, 191, true) := by simp only [txtFirst, t1, t2, t3, t4, t5, t6, t7, t8, if_true, Bool.false_eq_true, if_false, Bool.true_and, Bool.false_and, Bool.and_true, Bool.and_false, Bool.or_true, Bool.or_false, Bool.true_or, Bool.false_or, Bool.not_true, Bool.not_false, Option.map_some, Option.map_none]
                  rw [hr]
                  clear hr
                  go_enter Try.func194, Try.ntmps194
                  go_wp2_with fail
                  exact bodyPost_ret (v := .tuple #[.int .i64 3, .int .u8 144, .int .u8 191, .bool true]) (by simp [results, Try.results194]) rfl ⟨rfl, rfl⟩
                | false =>
                  cases t9 : (b == 244) with
                  | true =>
                    have hr : txtFirst b = (3, 128, 143, true) := by simp only [txtFirst, t1, t2, t3, t4, t5, t6, t7, t8, t9, if_true, Bool.false_eq_true, if_false, Bool.true_and, Bool.false_and, Bool.and_true, Bool.and_false, Bool.or_true, Bool.or_false, Bool.true_or, Bool.false_or, Bool.not_true, Bool.not_false, Option.map_some, Option.map_none]
                    rw [hr]
                    clear hr
                    go_enter Try.func194, Try.ntmps194
                    go_wp2_with fail
                    exact bodyPost_ret (v := .tuple #[.int .i64 3, .int .u8 128, .int .u8 143, .bool true]) (by simp [results, Try.results194]) rfl ⟨rfl, rfl⟩
                  | false =>
                    have hr : txtFirst b = (3, 128, 191, true) := by simp only [txtFirst, t1, t2, t3, t4, t5, t6, t7, t8, t9, if_true, Bool.false_eq_true, if_false, Bool.true_and, Bool.false_and, Bool.and_true, Bool.and_false, Bool.or_true, Bool.or_false, Bool.true_or, Bool.false_or, Bool.not_true, Bool.not_false, Option.map_some, Option.map_none]
                    rw [hr]
                    clear hr
                    go_enter Try.func194, Try.ntmps194
                    go_wp2_with fail
                    exact bodyPost_ret (v := .tuple #[.int .i64 3, .int .u8 128, .int .u8 191, .bool true]) (by simp [results, Try.results194]) rfl ⟨rfl, rfl⟩

/-- The next byte of UTF-8. -/
def txtUtf8 (tag left more low high b : Int) : Option (Array Value) :=
  if decide (0 < more) = true then (if decide (b < low) = true then none else if decide (high < b) = true then none else some (txtC tag left (more - 1) 128 191))
  else if (txtFirst b).2.2.2 = true then (if decide (left < (txtFirst b).1) = true then none else some (txtC tag left (txtFirst b).1 (txtFirst b).2.1 (txtFirst b).2.2.1)) else none

set_option maxRecDepth 100000 in
set_option maxHeartbeats 4000000 in
theorem txtUtf8_go (w : World) (tag left more low high b : Int) (h0 : 0 ≤ more) (h1 : more ≤ 9223372036854775806) (u1 : decide (0 < more) = true) : Calls Try.prog 184 #[.agg #[.int .i64 tag, .int .i64 left, .int .i64 more, .int .u8 low, .int .u8 high], .int .u8 b] w (StPost w txtZ (txtUtf8 tag left more low high b)) := by
  cases t1 : decide (b < low) with
  | true =>
    have hr : txtUtf8 tag left more low high b = none := by simp only [txtUtf8, u1, t1, if_true, Bool.false_eq_true, if_false, Bool.true_and, Bool.false_and, Bool.and_true, Bool.and_false, Bool.or_true, Bool.or_false, Bool.true_or, Bool.false_or, Bool.not_true, Bool.not_false, Option.map_some, Option.map_none]
    rw [hr]
    clear hr
    go_enter Try.func184, Try.ntmps184
    go_wp2_with fail
    first
      | refine bodyPost_ret (results_cell_tmp1 rfl _ _ _ _ _ _ _ rfl (heap_alloc_new w _) Try.underlying219 rfl info_txt) rfl ⟨rfl, (Below.refl _ _).alloc (Nat.le_refl _) _⟩
      | refine bodyPost_ret (results_cell_tmp1 rfl _ _ _ _ _ _ _ rfl (heap_alloc2_old w _ _) Try.underlying219 rfl info_txt) rfl ⟨rfl, ((Below.refl _ _).alloc (Nat.le_refl _) _).alloc (by simp) _⟩
      | refine bodyPost_ret (results_cell_tmp1 rfl _ _ _ _ _ _ _ rfl (heap_alloc2_new w _ _) Try.underlying219 rfl info_txt) rfl ⟨rfl, ((Below.refl _ _).alloc (Nat.le_refl _) _).alloc (by simp) _⟩
      | refine bodyPost_ret (results_cell_tmp1 rfl _ _ _ _ _ _ _ rfl (heap_alloc2_old w _ _) Try.underlying219 rfl info_txt) rfl ⟨rfl, (((Below.refl _ _).alloc (Nat.le_refl _) _).alloc (by simp) _).drew⟩
      | refine bodyPost_ret (results_cell_tmp1 rfl _ _ _ _ _ _ _ rfl (heap_alloc2_new w _ _) Try.underlying219 rfl info_txt) rfl ⟨rfl, (((Below.refl _ _).alloc (Nat.le_refl _) _).alloc (by simp) _).drew⟩
      | refine bodyPost_ret (results_cell_tmp1 rfl _ _ _ _ _ _ _ rfl (heap_alloc_new w _) Try.underlying219 rfl info_txt) rfl ⟨rfl, ((Below.refl _ _).alloc (Nat.le_refl _) _).drew⟩
  | false =>
    cases t2 : decide (high < b) with
    | true =>
      have hr : txtUtf8 tag left more low high b = none := by simp only [txtUtf8, u1, t1, t2, if_true, Bool.false_eq_true, if_false, Bool.true_and, Bool.false_and, Bool.and_true, Bool.and_false, Bool.or_true, Bool.or_false, Bool.true_or, Bool.false_or, Bool.not_true, Bool.not_false, Option.map_some, Option.map_none]
      rw [hr]
      clear hr
      go_enter Try.func184, Try.ntmps184
      go_wp2_with fail
      first
        | refine bodyPost_ret (results_cell_tmp1 rfl _ _ _ _ _ _ _ rfl (heap_alloc_new w _) Try.underlying219 rfl info_txt) rfl ⟨rfl, (Below.refl _ _).alloc (Nat.le_refl _) _⟩
        | refine bodyPost_ret (results_cell_tmp1 rfl _ _ _ _ _ _ _ rfl (heap_alloc2_old w _ _) Try.underlying219 rfl info_txt) rfl ⟨rfl, ((Below.refl _ _).alloc (Nat.le_refl _) _).alloc (by simp) _⟩
        | refine bodyPost_ret (results_cell_tmp1 rfl _ _ _ _ _ _ _ rfl (heap_alloc2_new w _ _) Try.underlying219 rfl info_txt) rfl ⟨rfl, ((Below.refl _ _).alloc (Nat.le_refl _) _).alloc (by simp) _⟩
        | refine bodyPost_ret (results_cell_tmp1 rfl _ _ _ _ _ _ _ rfl (heap_alloc2_old w _ _) Try.underlying219 rfl info_txt) rfl ⟨rfl, (((Below.refl _ _).alloc (Nat.le_refl _) _).alloc (by simp) _).drew⟩
        | refine bodyPost_ret (results_cell_tmp1 rfl _ _ _ _ _ _ _ rfl (heap_alloc2_new w _ _) Try.underlying219 rfl info_txt) rfl ⟨rfl, (((Below.refl _ _).alloc (Nat.le_refl _) _).alloc (by simp) _).drew⟩
        | refine bodyPost_ret (results_cell_tmp1 rfl _ _ _ _ _ _ _ rfl (heap_alloc_new w _) Try.underlying219 rfl info_txt) rfl ⟨rfl, ((Below.refl _ _).alloc (Nat.le_refl _) _).drew⟩
    | false =>
      have hr : txtUtf8 tag left more low high b = some (txtC tag left (more - 1) 128 191) := by simp only [txtUtf8, u1, t1, t2, if_true, Bool.false_eq_true, if_false, Bool.true_and, Bool.false_and, Bool.and_true, Bool.and_false, Bool.or_true, Bool.or_false, Bool.true_or, Bool.false_or, Bool.not_true, Bool.not_false, Option.map_some, Option.map_none]
      rw [hr]
      clear hr
      go_enter Try.func184, Try.ntmps184
      go_wp2_with fail
      first
        | refine bodyPost_ret (results_cell_tmp1 rfl _ _ _ _ _ _ _ rfl (heap_alloc_new w _) Try.underlying219 rfl info_txt) rfl ⟨rfl, (Below.refl _ _).alloc (Nat.le_refl _) _⟩
        | refine bodyPost_ret (results_cell_tmp1 rfl _ _ _ _ _ _ _ rfl (heap_alloc2_old w _ _) Try.underlying219 rfl info_txt) rfl ⟨rfl, ((Below.refl _ _).alloc (Nat.le_refl _) _).alloc (by simp) _⟩
        | refine bodyPost_ret (results_cell_tmp1 rfl _ _ _ _ _ _ _ rfl (heap_alloc2_new w _ _) Try.underlying219 rfl info_txt) rfl ⟨rfl, ((Below.refl _ _).alloc (Nat.le_refl _) _).alloc (by simp) _⟩
        | refine bodyPost_ret (results_cell_tmp1 rfl _ _ _ _ _ _ _ rfl (heap_alloc2_old w _ _) Try.underlying219 rfl info_txt) rfl ⟨rfl, (((Below.refl _ _).alloc (Nat.le_refl _) _).alloc (by simp) _).drew⟩
        | refine bodyPost_ret (results_cell_tmp1 rfl _ _ _ _ _ _ _ rfl (heap_alloc2_new w _ _) Try.underlying219 rfl info_txt) rfl ⟨rfl, (((Below.refl _ _).alloc (Nat.le_refl _) _).alloc (by simp) _).drew⟩
        | refine bodyPost_ret (results_cell_tmp1 rfl _ _ _ _ _ _ _ rfl (heap_alloc_new w _) Try.underlying219 rfl info_txt) rfl ⟨rfl, ((Below.refl _ _).alloc (Nat.le_refl _) _).drew⟩

set_option maxRecDepth 100000 in
set_option maxHeartbeats 4000000 in
theorem txtUtf8_first (w : World) (tag left more low high b : Int) (h0 : 0 ≤ more) (h1 : more ≤ 9223372036854775806) (u1 : decide (0 < more) = false) : Calls Try.prog 184 #[.agg #[.int .i64 tag, .int .i64 left, .int .i64 more, .int .u8 low, .int .u8 high], .int .u8 b] w (StPost w txtZ (txtUtf8 tag left more low high b)) := by
  have tf := fun W => txtFirst_any W b
  unfold FirstPost at tf
  unfold txtUtf8
  rw [u1]
  simp only [Bool.false_eq_true, if_false]
  generalize txtFirst b = r at tf ⊢
  obtain ⟨m, lo, hi, ok⟩ := r
  simp only at tf ⊢
  have TF := Lib.hid tf
  clear tf
  cases ok with
  | false =>
    simp only [Bool.false_eq_true, if_false]
    go_enter Try.func184, Try.ntmps184
    go_wp2_with fail
    refine (TF.out _).mono ?_
    rintro e w1 ⟨rfl, rfl⟩
    go_wp2_with fail
    first
      | refine bodyPost_ret (results_cell_tmp1 rfl _ _ _ _ _ _ _ rfl (heap_alloc_new w _) Try.underlying219 rfl info_txt) rfl ⟨rfl, (Below.refl _ _).alloc (Nat.le_refl _) _⟩
      | refine bodyPost_ret (results_cell_tmp1 rfl _ _ _ _ _ _ _ rfl (heap_alloc2_old w _ _) Try.underlying219 rfl info_txt) rfl ⟨rfl, ((Below.refl _ _).alloc (Nat.le_refl _) _).alloc (by simp) _⟩
      | refine bodyPost_ret (results_cell_tmp1 rfl _ _ _ _ _ _ _ rfl (heap_alloc2_new w _ _) Try.underlying219 rfl info_txt) rfl ⟨rfl, ((Below.refl _ _).alloc (Nat.le_refl _) _).alloc (by simp) _⟩
      | refine bodyPost_ret (results_cell_tmp1 rfl _ _ _ _ _ _ _ rfl (heap_alloc2_old w _ _) Try.underlying219 rfl info_txt) rfl ⟨rfl, (((Below.refl _ _).alloc (Nat.le_refl _) _).alloc (by simp) _).drew⟩
      | refine bodyPost_ret (results_cell_tmp1 rfl _ _ _ _ _ _ _ rfl (heap_alloc2_new w _ _) Try.underlying219 rfl info_txt) rfl ⟨rfl, (((Below.refl _ _).alloc (Nat.le_refl _) _).alloc (by simp) _).drew⟩
      | refine bodyPost_ret (results_cell_tmp1 rfl _ _ _ _ _ _ _ rfl (heap_alloc_new w _) Try.underlying219 rfl info_txt) rfl ⟨rfl, ((Below.refl _ _).alloc (Nat.le_refl _) _).drew⟩
  | true =>
    cases u2 : decide (left < m) with
    | true =>
      simp only [if_true]
      go_enter Try.func184, Try.ntmps184
      go_wp2_with fail
      refine (TF.out _).mono ?_
      rintro e w1 ⟨rfl, rfl⟩
      go_wp2_with fail
      first
        | refine bodyPost_ret (results_cell_tmp1 rfl _ _ _ _ _ _ _ rfl (heap_alloc_new w _) Try.underlying219 rfl info_txt) rfl ⟨rfl, (Below.refl _ _).alloc (Nat.le_refl _) _⟩
        | refine bodyPost_ret (results_cell_tmp1 rfl _ _ _ _ _ _ _ rfl (heap_alloc2_old w _ _) Try.underlying219 rfl info_txt) rfl ⟨rfl, ((Below.refl _ _).alloc (Nat.le_refl _) _).alloc (by simp) _⟩
        | refine bodyPost_ret (results_cell_tmp1 rfl _ _ _ _ _ _ _ rfl (heap_alloc2_new w _ _) Try.underlying219 rfl info_txt) rfl ⟨rfl, ((Below.refl _ _).alloc (Nat.le_refl _) _).alloc (by simp) _⟩
        | refine bodyPost_ret (results_cell_tmp1 rfl _ _ _ _ _ _ _ rfl (heap_alloc2_old w _ _) Try.underlying219 rfl info_txt) rfl ⟨rfl, (((Below.refl _ _).alloc (Nat.le_refl _) _).alloc (by simp) _).drew⟩
        | refine bodyPost_ret (results_cell_tmp1 rfl _ _ _ _ _ _ _ rfl (heap_alloc2_new w _ _) Try.underlying219 rfl info_txt) rfl ⟨rfl, (((Below.refl _ _).alloc (Nat.le_refl _) _).alloc (by simp) _).drew⟩
        | refine bodyPost_ret (results_cell_tmp1 rfl _ _ _ _ _ _ _ rfl (heap_alloc_new w _) Try.underlying219 rfl info_txt) rfl ⟨rfl, ((Below.refl _ _).alloc (Nat.le_refl _) _).drew⟩
    | false =>
      simp only [if_true, Bool.false_eq_true, if_false]
      go_enter Try.func184, Try.ntmps184
      go_wp2_with fail
      refine (TF.out _).mono ?_
      rintro e w1 ⟨rfl, rfl⟩
      go_wp2_with fail
      first
        | refine bodyPost_ret (results_cell_tmp1 rfl _ _ _ _ _ _ _ rfl (heap_alloc_new w _) Try.underlying219 rfl info_txt) rfl ⟨rfl, (Below.refl _ _).alloc (Nat.le_refl _) _⟩
        | refine bodyPost_ret (results_cell_tmp1 rfl _ _ _ _ _ _ _ rfl (heap_alloc2_old w _ _) Try.underlying219 rfl info_txt) rfl ⟨rfl, ((Below.refl _ _).alloc (Nat.le_refl _) _).alloc (by simp) _⟩
        | refine bodyPost_ret (results_cell_tmp1 rfl _ _ _ _ _ _ _ rfl (heap_alloc2_new w _ _) Try.underlying219 rfl info_txt) rfl ⟨rfl, ((Below.refl _ _).alloc (Nat.le_refl _) _).alloc (by simp) _⟩
        | refine bodyPost_ret (results_cell_tmp1 rfl _ _ _ _ _ _ _ rfl (heap_alloc2_old w _ _) Try.underlying219 rfl info_txt) rfl ⟨rfl, (((Below.refl _ _).alloc (Nat.le_refl _) _).alloc (by simp) _).drew⟩
        | refine bodyPost_ret (results_cell_tmp1 rfl _ _ _ _ _ _ _ rfl (heap_alloc2_new w _ _) Try.underlying219 rfl info_txt) rfl ⟨rfl, (((Below.refl _ _).alloc (Nat.le_refl _) _).alloc (by simp) _).drew⟩
        | refine bodyPost_ret (results_cell_tmp1 rfl _ _ _ _ _ _ _ rfl (heap_alloc_new w _) Try.underlying219 rfl info_txt) rfl ⟨rfl, ((Below.refl _ _).alloc (Nat.le_refl _) _).drew⟩
theorem txtUtf8_any (w : World) (tag left more low high b : Int) (h0 : 0 ≤ more) (h1 : more ≤ 9223372036854775806) : Calls Try.prog 184 #[.agg #[.int .i64 tag, .int .i64 left, .int .i64 more, .int .u8 low, .int .u8 high], .int .u8 b] w (StPost w txtZ (txtUtf8 tag left more low high b)) := by
  cases u1 : decide (0 < more) with
  | true => exact txtUtf8_go w tag left more low high b h0 h1 u1
  | false => exact txtUtf8_first w tag left more low high b h0 h1 u1
end Go.Proofs.Ytkabmmpccfeffaa
