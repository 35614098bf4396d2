/- Layers 11 and 12 (oid.State, bitstr.State): by contracts. -/
import Derived.Test.YtkabmmpccfeffaaVNum
namespace Go.Proofs.Ytkabmmpccfeffaa
open Go.RowKit
set_option linter.unusedVariables false
set_option linter.unusedSimpArgs false

def oidZ : Array Value := #[.int .i64 0, .bool false]
def oidC (left : Int) (within : Bool) : Array Value := #[.int .i64 left, .bool within]
theorem info_oid : (Try.prog.info? 208).map (·.size) = some 2 := by kernel_rfl
def bitZ : Array Value := #[.int .i64 0, .bool false, .int .u8 0]
def bitC (left : Int) (begun : Bool) (unused : Int) : Array Value := #[.int .i64 left, .bool begun, .int .u8 unused]
theorem info_bit : (Try.prog.info? 183).map (·.size) = some 3 := by kernel_rfl
def oidStart (n : Int) : Option (Array Value) := if decide (n < 1) = true then (none) else (some (oidC n false))
def oidPush (left : Int) (within : Bool) (b : Int) : Option (Array Value) := if within = true then (if (left - 1 == 0) = true then (if decide (128 ≤ b) = true then (none) else (some (oidC (left - 1) false))) else (if decide (128 ≤ b) = true then (some (oidC (left - 1) true)) else (some (oidC (left - 1) false)))) else (if (b == 128) = true then (none) else (if (left - 1 == 0) = true then (if decide (128 ≤ b) = true then (none) else (some (oidC (left - 1) false))) else (if decide (128 ≤ b) = true then (some (oidC (left - 1) true)) else (some (oidC (left - 1) false)))))
def bitStart (n : Int) : Option (Array Value) := if decide (n < 1) = true then (none) else (some (bitC n false 0))

set_option maxRecDepth 100000 in
set_option maxHeartbeats 4000000 in
theorem oidStart_any (w : World) (n : Int) : Calls Try.prog 143 #[.int .i64 n] w (StPost w oidZ (oidStart n)) := by
  cases t1 : decide (n < 1) with
  | true =>
    have hr : oidStart n = none := by simp only [oidStart, t1, if_true, Bool.false_eq_true, if_false, Bool.true_and, Bool.false_and, Bool.and_true, Bool.and_false, Bool.or_true, Bool.or_false, Bool.true_or, Bool.false_or, Bool.not_true, Bool.not_false, Option.map_some, Option.map_none]
    rw [hr]
    clear hr
    go_enter Try.func143, Try.ntmps143
    go_wp2_with fail
    first
      | refine bodyPost_ret (results_cell_tmp1 rfl _ _ _ _ _ _ _ rfl (heap_alloc_new w _) Try.underlying208 rfl info_oid) rfl ⟨rfl, (Below.refl _ _).alloc (Nat.le_refl _) _⟩
      | refine bodyPost_ret (results_cell_tmp1 rfl _ _ _ _ _ _ _ rfl (heap_alloc2_old w _ _) Try.underlying208 rfl info_oid) rfl ⟨rfl, ((Below.refl _ _).alloc (Nat.le_refl _) _).alloc (by simp) _⟩
      | refine bodyPost_ret (results_cell_tmp1 rfl _ _ _ _ _ _ _ rfl (heap_alloc2_new w _ _) Try.underlying208 rfl info_oid) rfl ⟨rfl, ((Below.refl _ _).alloc (Nat.le_refl _) _).alloc (by simp) _⟩
      | refine bodyPost_ret (results_cell_tmp1 rfl _ _ _ _ _ _ _ rfl (heap_alloc2_old w _ _) Try.underlying208 rfl info_oid) rfl ⟨rfl, (((Below.refl _ _).alloc (Nat.le_refl _) _).alloc (by simp) _).drew⟩
      | refine bodyPost_ret (results_cell_tmp1 rfl _ _ _ _ _ _ _ rfl (heap_alloc2_new w _ _) Try.underlying208 rfl info_oid) rfl ⟨rfl, (((Below.refl _ _).alloc (Nat.le_refl _) _).alloc (by simp) _).drew⟩
      | refine bodyPost_ret (results_cell_tmp1 rfl _ _ _ _ _ _ _ rfl (heap_alloc_new w _) Try.underlying208 rfl info_oid) rfl ⟨rfl, ((Below.refl _ _).alloc (Nat.le_refl _) _).drew⟩
  | false =>
    have hr : oidStart n = some (oidC n false) := by simp only [oidStart, t1, if_true, Bool.false_eq_true, if_false, Bool.true_and, Bool.false_and, Bool.and_true, Bool.and_false, Bool.or_true, Bool.or_false, Bool.true_or, Bool.false_or, Bool.not_true, Bool.not_false, Option.map_some, Option.map_none]
    rw [hr]
    clear hr
    go_enter Try.func143, Try.ntmps143
    go_wp2_with fail
    first
      | refine bodyPost_ret (results_cell_tmp1 rfl _ _ _ _ _ _ _ rfl (heap_alloc_new w _) Try.underlying208 rfl info_oid) rfl ⟨rfl, (Below.refl _ _).alloc (Nat.le_refl _) _⟩
      | refine bodyPost_ret (results_cell_tmp1 rfl _ _ _ _ _ _ _ rfl (heap_alloc2_old w _ _) Try.underlying208 rfl info_oid) rfl ⟨rfl, ((Below.refl _ _).alloc (Nat.le_refl _) _).alloc (by simp) _⟩
      | refine bodyPost_ret (results_cell_tmp1 rfl _ _ _ _ _ _ _ rfl (heap_alloc2_new w _ _) Try.underlying208 rfl info_oid) rfl ⟨rfl, ((Below.refl _ _).alloc (Nat.le_refl _) _).alloc (by simp) _⟩
      | refine bodyPost_ret (results_cell_tmp1 rfl _ _ _ _ _ _ _ rfl (heap_alloc2_old w _ _) Try.underlying208 rfl info_oid) rfl ⟨rfl, (((Below.refl _ _).alloc (Nat.le_refl _) _).alloc (by simp) _).drew⟩
      | refine bodyPost_ret (results_cell_tmp1 rfl _ _ _ _ _ _ _ rfl (heap_alloc2_new w _ _) Try.underlying208 rfl info_oid) rfl ⟨rfl, (((Below.refl _ _).alloc (Nat.le_refl _) _).alloc (by simp) _).drew⟩
      | refine bodyPost_ret (results_cell_tmp1 rfl _ _ _ _ _ _ _ rfl (heap_alloc_new w _) Try.underlying208 rfl info_oid) rfl ⟨rfl, ((Below.refl _ _).alloc (Nat.le_refl _) _).drew⟩

set_option maxRecDepth 100000 in
set_option maxHeartbeats 4000000 in
theorem bitStart_any (w : World) (n : Int) : Calls Try.prog 129 #[.int .i64 n] w (StPost w bitZ (bitStart n)) := by
  cases t1 : decide (n < 1) with
  | true =>
    have hr : bitStart n = none := by simp only [bitStart, t1, if_true, Bool.false_eq_true, if_false, Bool.true_and, Bool.false_and, Bool.and_true, Bool.and_false, Bool.or_true, Bool.or_false, Bool.true_or, Bool.false_or, Bool.not_true, Bool.not_false, Option.map_some, Option.map_none]
    rw [hr]
    clear hr
    go_enter Try.func129, Try.ntmps129
    go_wp2_with fail
    first
      | refine bodyPost_ret (results_cell_tmp1 rfl _ _ _ _ _ _ _ rfl (heap_alloc_new w _) Try.underlying183 rfl info_bit) rfl ⟨rfl, (Below.refl _ _).alloc (Nat.le_refl _) _⟩
      | refine bodyPost_ret (results_cell_tmp1 rfl _ _ _ _ _ _ _ rfl (heap_alloc2_old w _ _) Try.underlying183 rfl info_bit) rfl ⟨rfl, ((Below.refl _ _).alloc (Nat.le_refl _) _).alloc (by simp) _⟩
      | refine bodyPost_ret (results_cell_tmp1 rfl _ _ _ _ _ _ _ rfl (heap_alloc2_new w _ _) Try.underlying183 rfl info_bit) rfl ⟨rfl, ((Below.refl _ _).alloc (Nat.le_refl _) _).alloc (by simp) _⟩
      | refine bodyPost_ret (results_cell_tmp1 rfl _ _ _ _ _ _ _ rfl (heap_alloc2_old w _ _) Try.underlying183 rfl info_bit) rfl ⟨rfl, (((Below.refl _ _).alloc (Nat.le_refl _) _).alloc (by simp) _).drew⟩
      | refine bodyPost_ret (results_cell_tmp1 rfl _ _ _ _ _ _ _ rfl (heap_alloc2_new w _ _) Try.underlying183 rfl info_bit) rfl ⟨rfl, (((Below.refl _ _).alloc (Nat.le_refl _) _).alloc (by simp) _).drew⟩
      | refine bodyPost_ret (results_cell_tmp1 rfl _ _ _ _ _ _ _ rfl (heap_alloc_new w _) Try.underlying183 rfl info_bit) rfl ⟨rfl, ((Below.refl _ _).alloc (Nat.le_refl _) _).drew⟩
  | false =>
    have hr : bitStart n = some (bitC n false 0) := by simp only [bitStart, t1, if_true, Bool.false_eq_true, if_false, Bool.true_and, Bool.false_and, Bool.and_true, Bool.and_false, Bool.or_true, Bool.or_false, Bool.true_or, Bool.false_or, Bool.not_true, Bool.not_false, Option.map_some, Option.map_none]
    rw [hr]
    clear hr
    go_enter Try.func129, Try.ntmps129
    go_wp2_with fail
    first
      | refine bodyPost_ret (results_cell_tmp1 rfl _ _ _ _ _ _ _ rfl (heap_alloc_new w _) Try.underlying183 rfl info_bit) rfl ⟨rfl, (Below.refl _ _).alloc (Nat.le_refl _) _⟩
      | refine bodyPost_ret (results_cell_tmp1 rfl _ _ _ _ _ _ _ rfl (heap_alloc2_old w _ _) Try.underlying183 rfl info_bit) rfl ⟨rfl, ((Below.refl _ _).alloc (Nat.le_refl _) _).alloc (by simp) _⟩
      | refine bodyPost_ret (results_cell_tmp1 rfl _ _ _ _ _ _ _ rfl (heap_alloc2_new w _ _) Try.underlying183 rfl info_bit) rfl ⟨rfl, ((Below.refl _ _).alloc (Nat.le_refl _) _).alloc (by simp) _⟩
      | refine bodyPost_ret (results_cell_tmp1 rfl _ _ _ _ _ _ _ rfl (heap_alloc2_old w _ _) Try.underlying183 rfl info_bit) rfl ⟨rfl, (((Below.refl _ _).alloc (Nat.le_refl _) _).alloc (by simp) _).drew⟩
      | refine bodyPost_ret (results_cell_tmp1 rfl _ _ _ _ _ _ _ rfl (heap_alloc2_new w _ _) Try.underlying183 rfl info_bit) rfl ⟨rfl, (((Below.refl _ _).alloc (Nat.le_refl _) _).alloc (by simp) _).drew⟩
      | refine bodyPost_ret (results_cell_tmp1 rfl _ _ _ _ _ _ _ rfl (heap_alloc_new w _) Try.underlying183 rfl info_bit) rfl ⟨rfl, ((Below.refl _ _).alloc (Nat.le_refl _) _).drew⟩

set_option maxRecDepth 100000 in
set_option maxHeartbeats 4000000 in
theorem oidPush_any (w : World) (left : Int) (within : Bool) (b : Int) (h0 : 0 < left) (h1 : left ≤ 9223372036854775806) : Calls Try.prog 220 #[.agg #[.int .i64 left, .bool within], .int .u8 b] w (StPost w oidZ (oidPush left within b)) := by
  cases within with
  | true =>
    cases t2 : (left - 1 == 0) with
    | true =>
      cases t3 : decide (128 ≤ b) with
      | true =>
        have hr : oidPush left true b = none := by simp only [oidPush, t2, t3, if_true, Bool.false_eq_true, if_false, Bool.true_and, Bool.false_and, Bool.and_true, Bool.and_false, Bool.or_true, Bool.or_false, Bool.true_or, Bool.false_or, Bool.not_true, Bool.not_false, Option.map_some, Option.map_none]
        rw [hr]
        clear hr
        go_enter Try.func220, Try.ntmps220
        go_wp2_with fail
        first
          | refine bodyPost_ret (results_cell_tmp1 rfl _ _ _ _ _ _ _ rfl (heap_alloc_new w _) Try.underlying208 rfl info_oid) rfl ⟨rfl, (Below.refl _ _).alloc (Nat.le_refl _) _⟩
          | refine bodyPost_ret (results_cell_tmp1 rfl _ _ _ _ _ _ _ rfl (heap_alloc2_old w _ _) Try.underlying208 rfl info_oid) rfl ⟨rfl, ((Below.refl _ _).alloc (Nat.le_refl _) _).alloc (by simp) _⟩
          | refine bodyPost_ret (results_cell_tmp1 rfl _ _ _ _ _ _ _ rfl (heap_alloc2_new w _ _) Try.underlying208 rfl info_oid) rfl ⟨rfl, ((Below.refl _ _).alloc (Nat.le_refl _) _).alloc (by simp) _⟩
          | refine bodyPost_ret (results_cell_tmp1 rfl _ _ _ _ _ _ _ rfl (heap_alloc2_old w _ _) Try.underlying208 rfl info_oid) rfl ⟨rfl, (((Below.refl _ _).alloc (Nat.le_refl _) _).alloc (by simp) _).drew⟩
          | refine bodyPost_ret (results_cell_tmp1 rfl _ _ _ _ _ _ _ rfl (heap_alloc2_new w _ _) Try.underlying208 rfl info_oid) rfl ⟨rfl, (((Below.refl _ _).alloc (Nat.le_refl _) _).alloc (by simp) _).drew⟩
          | refine bodyPost_ret (results_cell_tmp1 rfl _ _ _ _ _ _ _ rfl (heap_alloc_new w _) Try.underlying208 rfl info_oid) rfl ⟨rfl, ((Below.refl _ _).alloc (Nat.le_refl _) _).drew⟩
      | false =>
        have hr : oidPush left true b = some (oidC (left - 1) false) := by simp only [oidPush, t2, t3, if_true, Bool.false_eq_true, if_false, Bool.true_and, Bool.false_and, Bool.and_true, Bool.and_false, Bool.or_true, Bool.or_false, Bool.true_or, Bool.false_or, Bool.not_true, Bool.not_false, Option.map_some, Option.map_none]
        rw [hr]
        clear hr
        go_enter Try.func220, Try.ntmps220
        go_wp2_with fail
        first
          | refine bodyPost_ret (results_cell_tmp1 rfl _ _ _ _ _ _ _ rfl (heap_alloc_new w _) Try.underlying208 rfl info_oid) rfl ⟨rfl, (Below.refl _ _).alloc (Nat.le_refl _) _⟩
          | refine bodyPost_ret (results_cell_tmp1 rfl _ _ _ _ _ _ _ rfl (heap_alloc2_old w _ _) Try.underlying208 rfl info_oid) rfl ⟨rfl, ((Below.refl _ _).alloc (Nat.le_refl _) _).alloc (by simp) _⟩
          | refine bodyPost_ret (results_cell_tmp1 rfl _ _ _ _ _ _ _ rfl (heap_alloc2_new w _ _) Try.underlying208 rfl info_oid) rfl ⟨rfl, ((Below.refl _ _).alloc (Nat.le_refl _) _).alloc (by simp) _⟩
          | refine bodyPost_ret (results_cell_tmp1 rfl _ _ _ _ _ _ _ rfl (heap_alloc2_old w _ _) Try.underlying208 rfl info_oid) rfl ⟨rfl, (((Below.refl _ _).alloc (Nat.le_refl _) _).alloc (by simp) _).drew⟩
          | refine bodyPost_ret (results_cell_tmp1 rfl _ _ _ _ _ _ _ rfl (heap_alloc2_new w _ _) Try.underlying208 rfl info_oid) rfl ⟨rfl, (((Below.refl _ _).alloc (Nat.le_refl _) _).alloc (by simp) _).drew⟩
          | refine bodyPost_ret (results_cell_tmp1 rfl _ _ _ _ _ _ _ rfl (heap_alloc_new w _) Try.underlying208 rfl info_oid) rfl ⟨rfl, ((Below.refl _ _).alloc (Nat.le_refl _) _).drew⟩
    | false =>
      cases t3 : decide (128 ≤ b) with
      | true =>
        have hr : oidPush left true b = some (oidC (left - 1) true) := by simp only [oidPush, t2, t3, if_true, Bool.false_eq_true, if_false, Bool.true_and, Bool.false_and, Bool.and_true, Bool.and_false, Bool.or_true, Bool.or_false, Bool.true_or, Bool.false_or, Bool.not_true, Bool.not_false, Option.map_some, Option.map_none]
        rw [hr]
        clear hr
        go_enter Try.func220, Try.ntmps220
        go_wp2_with fail
        first
          | refine bodyPost_ret (results_cell_tmp1 rfl _ _ _ _ _ _ _ rfl (heap_alloc_new w _) Try.underlying208 rfl info_oid) rfl ⟨rfl, (Below.refl _ _).alloc (Nat.le_refl _) _⟩
          | refine bodyPost_ret (results_cell_tmp1 rfl _ _ _ _ _ _ _ rfl (heap_alloc2_old w _ _) Try.underlying208 rfl info_oid) rfl ⟨rfl, ((Below.refl _ _).alloc (Nat.le_refl _) _).alloc (by simp) _⟩
          | refine bodyPost_ret (results_cell_tmp1 rfl _ _ _ _ _ _ _ rfl (heap_alloc2_new w _ _) Try.underlying208 rfl info_oid) rfl ⟨rfl, ((Below.refl _ _).alloc (Nat.le_refl _) _).alloc (by simp) _⟩
          | refine bodyPost_ret (results_cell_tmp1 rfl _ _ _ _ _ _ _ rfl (heap_alloc2_old w _ _) Try.underlying208 rfl info_oid) rfl ⟨rfl, (((Below.refl _ _).alloc (Nat.le_refl _) _).alloc (by simp) _).drew⟩
          | refine bodyPost_ret (results_cell_tmp1 rfl _ _ _ _ _ _ _ rfl (heap_alloc2_new w _ _) Try.underlying208 rfl info_oid) rfl ⟨rfl, (((Below.refl _ _).alloc (Nat.le_refl _) _).alloc (by simp) _).drew⟩
          | refine bodyPost_ret (results_cell_tmp1 rfl _ _ _ _ _ _ _ rfl (heap_alloc_new w _) Try.underlying208 rfl info_oid) rfl ⟨rfl, ((Below.refl _ _).alloc (Nat.le_refl _) _).drew⟩
      | false =>
        have hr : oidPush left true b = some (oidC (left - 1) false) := by simp only [oidPush, t2, t3, if_true, Bool.false_eq_true, if_false, Bool.true_and, Bool.false_and, Bool.and_true, Bool.and_false, Bool.or_true, Bool.or_false, Bool.true_or, Bool.false_or, Bool.not_true, Bool.not_false, Option.map_some, Option.map_none]
        rw [hr]
        clear hr
        go_enter Try.func220, Try.ntmps220
        go_wp2_with fail
        first
          | refine bodyPost_ret (results_cell_tmp1 rfl _ _ _ _ _ _ _ rfl (heap_alloc_new w _) Try.underlying208 rfl info_oid) rfl ⟨rfl, (Below.refl _ _).alloc (Nat.le_refl _) _⟩
          | refine bodyPost_ret (results_cell_tmp1 rfl _ _ _ _ _ _ _ rfl (heap_alloc2_old w _ _) Try.underlying208 rfl info_oid) rfl ⟨rfl, ((Below.refl _ _).alloc (Nat.le_refl _) _).alloc (by simp) _⟩
          | refine bodyPost_ret (results_cell_tmp1 rfl _ _ _ _ _ _ _ rfl (heap_alloc2_new w _ _) Try.underlying208 rfl info_oid) rfl ⟨rfl, ((Below.refl _ _).alloc (Nat.le_refl _) _).alloc (by simp) _⟩
          | refine bodyPost_ret (results_cell_tmp1 rfl _ _ _ _ _ _ _ rfl (heap_alloc2_old w _ _) Try.underlying208 rfl info_oid) rfl ⟨rfl, (((Below.refl _ _).alloc (Nat.le_refl _) _).alloc (by simp) _).drew⟩
          | refine bodyPost_ret (results_cell_tmp1 rfl _ _ _ _ _ _ _ rfl (heap_alloc2_new w _ _) Try.underlying208 rfl info_oid) rfl ⟨rfl, (((Below.refl _ _).alloc (Nat.le_refl _) _).alloc (by simp) _).drew⟩
          | refine bodyPost_ret (results_cell_tmp1 rfl _ _ _ _ _ _ _ rfl (heap_alloc_new w _) Try.underlying208 rfl info_oid) rfl ⟨rfl, ((Below.refl _ _).alloc (Nat.le_refl _) _).drew⟩
  | false =>
    cases t2 : (b == 128) with
    | true =>
      have hr : oidPush left false b = none := by simp only [oidPush, t2, if_true, Bool.false_eq_true, if_false, Bool.true_and, Bool.false_and, Bool.and_true, Bool.and_false, Bool.or_true, Bool.or_false, Bool.true_or, Bool.false_or, Bool.not_true, Bool.not_false, Option.map_some, Option.map_none]
      rw [hr]
      clear hr
      go_enter Try.func220, Try.ntmps220
      go_wp2_with fail
      first
        | refine bodyPost_ret (results_cell_tmp1 rfl _ _ _ _ _ _ _ rfl (heap_alloc_new w _) Try.underlying208 rfl info_oid) rfl ⟨rfl, (Below.refl _ _).alloc (Nat.le_refl _) _⟩
        | refine bodyPost_ret (results_cell_tmp1 rfl _ _ _ _ _ _ _ rfl (heap_alloc2_old w _ _) Try.underlying208 rfl info_oid) rfl ⟨rfl, ((Below.refl _ _).alloc (Nat.le_refl _) _).alloc (by simp) _⟩
        | refine bodyPost_ret (results_cell_tmp1 rfl _ _ _ _ _ _ _ rfl (heap_alloc2_new w _ _) Try.underlying208 rfl info_oid) rfl ⟨rfl, ((Below.refl _ _).alloc (Nat.le_refl _) _).alloc (by simp) _⟩
        | refine bodyPost_ret (results_cell_tmp1 rfl _ _ _ _ _ _ _ rfl (heap_alloc2_old w _ _) Try.underlying208 rfl info_oid) rfl ⟨rfl, (((Below.refl _ _).alloc (Nat.le_refl _) _).alloc (by simp) _).drew⟩
        | refine bodyPost_ret (results_cell_tmp1 rfl _ _ _ _ _ _ _ rfl (heap_alloc2_new w _ _) Try.underlying208 rfl info_oid) rfl ⟨rfl, (((Below.refl _ _).alloc (Nat.le_refl _) _).alloc (by simp) _).drew⟩
        | refine bodyPost_ret (results_cell_tmp1 rfl _ _ _ _ _ _ _ rfl (heap_alloc_new w _) Try.underlying208 rfl info_oid) rfl ⟨rfl, ((Below.refl _ _).alloc (Nat.le_refl _) _).drew⟩
    | false =>
      cases t3 : (left - 1 == 0) with
      | true =>
        cases t4 : decide (128 ≤ b) with
        | true =>
          have hr : oidPush left false b = none := by simp only [oidPush, t2, t3, t4, if_true, Bool.false_eq_true, if_false, Bool.true_and, Bool.false_and, Bool.and_true, Bool.and_false, Bool.or_true, Bool.or_false, Bool.true_or, Bool.false_or, Bool.not_true, Bool.not_false, Option.map_some, Option.map_none]
          rw [hr]
          clear hr
          go_enter Try.func220, Try.ntmps220
          go_wp2_with fail
          first
            | refine bodyPost_ret (results_cell_tmp1 rfl _ _ _ _ _ _ _ rfl (heap_alloc_new w _) Try.underlying208 rfl info_oid) rfl ⟨rfl, (Below.refl _ _).alloc (Nat.le_refl _) _⟩
            | refine bodyPost_ret (results_cell_tmp1 rfl _ _ _ _ _ _ _ rfl (heap_alloc2_old w _ _) Try.underlying208 rfl info_oid) rfl ⟨rfl, ((Below.refl _ _).alloc (Nat.le_refl _) _).alloc (by simp) _⟩
            | refine bodyPost_ret (results_cell_tmp1 rfl _ _ _ _ _ _ _ rfl (heap_alloc2_new w _ _) Try.underlying208 rfl info_oid) rfl ⟨rfl, ((Below.refl _ _).alloc (Nat.le_refl _) _).alloc (by simp) _⟩
            | refine bodyPost_ret (results_cell_tmp1 rfl _ _ _ _ _ _ _ rfl (heap_alloc2_old w _ _) Try.underlying208 rfl info_oid) rfl ⟨rfl, (((Below.refl _ _).alloc (Nat.le_refl _) _).alloc (by simp) _).drew⟩
            | refine bodyPost_ret (results_cell_tmp1 rfl _ _ _ _ _ _ _ rfl (heap_alloc2_new w _ _) Try.underlying208 rfl info_oid) rfl ⟨rfl, (((Below.refl _ _).alloc (Nat.le_refl _) _).alloc (by simp) _).drew⟩
            | refine bodyPost_ret (results_cell_tmp1 rfl _ _ _ _ _ _ _ rfl (heap_alloc_new w _) Try.underlying208 rfl info_oid) rfl ⟨rfl, ((Below.refl _ _).alloc (Nat.le_refl _) _).drew⟩
        | false =>
          have hr : oidPush left false b = some (oidC (left - 1) false) := by simp only [oidPush, t2, t3, t4, if_true, Bool.false_eq_true, if_false, Bool.true_and, Bool.false_and, Bool.and_true, Bool.and_false, Bool.or_true, Bool.or_false, Bool.true_or, Bool.false_or, Bool.not_true, Bool.not_false, Option.map_some, Option.map_none]
          rw [hr]
          clear hr
          go_enter Try.func220, Try.ntmps220
          go_wp2_with fail
          first
            | refine bodyPost_ret (results_cell_tmp1 rfl _ _ _ _ _ _ _ rfl (heap_alloc_new w _) Try.underlying208 rfl info_oid) rfl ⟨rfl, (Below.refl _ _).alloc (Nat.le_refl _) _⟩
            | refine bodyPost_ret (results_cell_tmp1 rfl _ _ _ _ _ _ _ rfl (heap_alloc2_old w _ _) Try.underlying208 rfl info_oid) rfl ⟨rfl, ((Below.refl _ _).alloc (Nat.le_refl _) _).alloc (by simp) _⟩
            | refine bodyPost_ret (results_cell_tmp1 rfl _ _ _ _ _ _ _ rfl (heap_alloc2_new w _ _) Try.underlying208 rfl info_oid) rfl ⟨rfl, ((Below.refl _ _).alloc (Nat.le_refl _) _).alloc (by simp) _⟩
            | refine bodyPost_ret (results_cell_tmp1 rfl _ _ _ _ _ _ _ rfl (heap_alloc2_old w _ _) Try.underlying208 rfl info_oid) rfl ⟨rfl, (((Below.refl _ _).alloc (Nat.le_refl _) _).alloc (by simp) _).drew⟩
            | refine bodyPost_ret (results_cell_tmp1 rfl _ _ _ _ _ _ _ rfl (heap_alloc2_new w _ _) Try.underlying208 rfl info_oid) rfl ⟨rfl, (((Below.refl _ _).alloc (Nat.le_refl _) _).alloc (by simp) _).drew⟩
            | refine bodyPost_ret (results_cell_tmp1 rfl _ _ _ _ _ _ _ rfl (heap_alloc_new w _) Try.underlying208 rfl info_oid) rfl ⟨rfl, ((Below.refl _ _).alloc (Nat.le_refl _) _).drew⟩
      | false =>
        cases t4 : decide (128 ≤ b) with
        | true =>
          have hr : oidPush left false b = some (oidC (left - 1) true) := by simp only [oidPush, t2, t3, t4, if_true, Bool.false_eq_true, if_false, Bool.true_and, Bool.false_and, Bool.and_true, Bool.and_false, Bool.or_true, Bool.or_false, Bool.true_or, Bool.false_or, Bool.not_true, Bool.not_false, Option.map_some, Option.map_none]
          rw [hr]
          clear hr
          go_enter Try.func220, Try.ntmps220
          go_wp2_with fail
          first
            | refine bodyPost_ret (results_cell_tmp1 rfl _ _ _ _ _ _ _ rfl (heap_alloc_new w _) Try.underlying208 rfl info_oid) rfl ⟨rfl, (Below.refl _ _).alloc (Nat.le_refl _) _⟩
            | refine bodyPost_ret (results_cell_tmp1 rfl _ _ _ _ _ _ _ rfl (heap_alloc2_old w _ _) Try.underlying208 rfl info_oid) rfl ⟨rfl, ((Below.refl _ _).alloc (Nat.le_refl _) _).alloc (by simp) _⟩
            | refine bodyPost_ret (results_cell_tmp1 rfl _ _ _ _ _ _ _ rfl (heap_alloc2_new w _ _) Try.underlying208 rfl info_oid) rfl ⟨rfl, ((Below.refl _ _).alloc (Nat.le_refl _) _).alloc (by simp) _⟩
            | refine bodyPost_ret (results_cell_tmp1 rfl _ _ _ _ _ _ _ rfl (heap_alloc2_old w _ _) Try.underlying208 rfl info_oid) rfl ⟨rfl, (((Below.refl _ _).alloc (Nat.le_refl _) _).alloc (by simp) _).drew⟩
            | refine bodyPost_ret (results_cell_tmp1 rfl _ _ _ _ _ _ _ rfl (heap_alloc2_new w _ _) Try.underlying208 rfl info_oid) rfl ⟨rfl, (((Below.refl _ _).alloc (Nat.le_refl _) _).alloc (by simp) _).drew⟩
            | refine bodyPost_ret (results_cell_tmp1 rfl _ _ _ _ _ _ _ rfl (heap_alloc_new w _) Try.underlying208 rfl info_oid) rfl ⟨rfl, ((Below.refl _ _).alloc (Nat.le_refl _) _).drew⟩
        | false =>
          have hr : oidPush left false b = some (oidC (left - 1) false) := by simp only [oidPush, t2, t3, t4, if_true, Bool.false_eq_true, if_false, Bool.true_and, Bool.false_and, Bool.and_true, Bool.and_false, Bool.or_true, Bool.or_false, Bool.true_or, Bool.false_or, Bool.not_true, Bool.not_false, Option.map_some, Option.map_none]
          rw [hr]
          clear hr
          go_enter Try.func220, Try.ntmps220
          go_wp2_with fail
          first
            | refine bodyPost_ret (results_cell_tmp1 rfl _ _ _ _ _ _ _ rfl (heap_alloc_new w _) Try.underlying208 rfl info_oid) rfl ⟨rfl, (Below.refl _ _).alloc (Nat.le_refl _) _⟩
            | refine bodyPost_ret (results_cell_tmp1 rfl _ _ _ _ _ _ _ rfl (heap_alloc2_old w _ _) Try.underlying208 rfl info_oid) rfl ⟨rfl, ((Below.refl _ _).alloc (Nat.le_refl _) _).alloc (by simp) _⟩
            | refine bodyPost_ret (results_cell_tmp1 rfl _ _ _ _ _ _ _ rfl (heap_alloc2_new w _ _) Try.underlying208 rfl info_oid) rfl ⟨rfl, ((Below.refl _ _).alloc (Nat.le_refl _) _).alloc (by simp) _⟩
            | refine bodyPost_ret (results_cell_tmp1 rfl _ _ _ _ _ _ _ rfl (heap_alloc2_old w _ _) Try.underlying208 rfl info_oid) rfl ⟨rfl, (((Below.refl _ _).alloc (Nat.le_refl _) _).alloc (by simp) _).drew⟩
            | refine bodyPost_ret (results_cell_tmp1 rfl _ _ _ _ _ _ _ rfl (heap_alloc2_new w _ _) Try.underlying208 rfl info_oid) rfl ⟨rfl, (((Below.refl _ _).alloc (Nat.le_refl _) _).alloc (by simp) _).drew⟩
            | refine bodyPost_ret (results_cell_tmp1 rfl _ _ _ _ _ _ _ rfl (heap_alloc_new w _) Try.underlying208 rfl info_oid) rfl ⟨rfl, ((Below.refl _ _).alloc (Nat.le_refl _) _).drew⟩
def bitPush (left : Int) (begun : Bool) (unused b : Int) : Option (Array Value) := if begun = true then (if (left - 1 == 0) = true then (if (bits .and .u8 b ((2 ^ unused.toNat - 1) % 256) != 0) = true then (none) else (some (bitC (left - 1) true unused))) else (some (bitC (left - 1) true unused))) else (if decide (7 < b) = true then (none) else (if decide (0 < b) = true then (if (left - 1 == 0) = true then (none) else (some (bitC (left - 1) true b))) else (some (bitC (left - 1) true b))))

set_option maxRecDepth 100000 in
set_option maxHeartbeats 4000000 in
theorem bitPush_any (w : World) (left : Int) (begun : Bool) (unused b : Int) (h0 : 0 < left) (h1 : left ≤ 9223372036854775806) (h2 : 0 ≤ unused) (h3 : unused ≤ 7) : Calls Try.prog 130 #[.agg #[.int .i64 left, .bool begun, .int .u8 unused], .int .u8 b] w (StPost w bitZ (bitPush left begun unused b)) := by
  cases begun with
  | true =>
    cases t1 : (left - 1 == 0) with
    | true =>
      cases t2 : (bits .and .u8 b ((2 ^ unused.toNat - 1) % 256) != 0) with
      | true =>
        have hr : bitPush left true unused b = none := by simp only [bitPush, t1, t2, if_true, Bool.false_eq_true, if_false, Bool.true_and, Bool.false_and, Bool.and_true, Bool.and_false, Bool.or_true, Bool.or_false, Bool.true_or, Bool.false_or, Bool.not_true, Bool.not_false, Option.map_some, Option.map_none]
        rw [hr]
        clear hr
        go_enter Try.func130, Try.ntmps130
        go_wp2_with fail
        first
          | refine bodyPost_ret (results_cell_tmp1 rfl _ _ _ _ _ _ _ rfl (heap_alloc_new w _) Try.underlying183 rfl info_bit) rfl ⟨rfl, (Below.refl _ _).alloc (Nat.le_refl _) _⟩
          | refine bodyPost_ret (results_cell_tmp1 rfl _ _ _ _ _ _ _ rfl (heap_alloc2_old w _ _) Try.underlying183 rfl info_bit) rfl ⟨rfl, ((Below.refl _ _).alloc (Nat.le_refl _) _).alloc (by simp) _⟩
          | refine bodyPost_ret (results_cell_tmp1 rfl _ _ _ _ _ _ _ rfl (heap_alloc2_new w _ _) Try.underlying183 rfl info_bit) rfl ⟨rfl, ((Below.refl _ _).alloc (Nat.le_refl _) _).alloc (by simp) _⟩
          | refine bodyPost_ret (results_cell_tmp1 rfl _ _ _ _ _ _ _ rfl (heap_alloc2_old w _ _) Try.underlying183 rfl info_bit) rfl ⟨rfl, (((Below.refl _ _).alloc (Nat.le_refl _) _).alloc (by simp) _).drew⟩
          | refine bodyPost_ret (results_cell_tmp1 rfl _ _ _ _ _ _ _ rfl (heap_alloc2_new w _ _) Try.underlying183 rfl info_bit) rfl ⟨rfl, (((Below.refl _ _).alloc (Nat.le_refl _) _).alloc (by simp) _).drew⟩
          | refine bodyPost_ret (results_cell_tmp1 rfl _ _ _ _ _ _ _ rfl (heap_alloc_new w _) Try.underlying183 rfl info_bit) rfl ⟨rfl, ((Below.refl _ _).alloc (Nat.le_refl _) _).drew⟩
      | false =>
        have hr : bitPush left true unused b = some (bitC (left - 1) true unused) := by simp only [bitPush, t1, t2, if_true, Bool.false_eq_true, if_false, Bool.true_and, Bool.false_and, Bool.and_true, Bool.and_false, Bool.or_true, Bool.or_false, Bool.true_or, Bool.false_or, Bool.not_true, Bool.not_false, Option.map_some, Option.map_none]
        rw [hr]
        clear hr
        go_enter Try.func130, Try.ntmps130
        go_wp2_with fail
        first
          | refine bodyPost_ret (results_cell_tmp1 rfl _ _ _ _ _ _ _ rfl (heap_alloc_new w _) Try.underlying183 rfl info_bit) rfl ⟨rfl, (Below.refl _ _).alloc (Nat.le_refl _) _⟩
          | refine bodyPost_ret (results_cell_tmp1 rfl _ _ _ _ _ _ _ rfl (heap_alloc2_old w _ _) Try.underlying183 rfl info_bit) rfl ⟨rfl, ((Below.refl _ _).alloc (Nat.le_refl _) _).alloc (by simp) _⟩
          | refine bodyPost_ret (results_cell_tmp1 rfl _ _ _ _ _ _ _ rfl (heap_alloc2_new w _ _) Try.underlying183 rfl info_bit) rfl ⟨rfl, ((Below.refl _ _).alloc (Nat.le_refl _) _).alloc (by simp) _⟩
          | refine bodyPost_ret (results_cell_tmp1 rfl _ _ _ _ _ _ _ rfl (heap_alloc2_old w _ _) Try.underlying183 rfl info_bit) rfl ⟨rfl, (((Below.refl _ _).alloc (Nat.le_refl _) _).alloc (by simp) _).drew⟩
          | refine bodyPost_ret (results_cell_tmp1 rfl _ _ _ _ _ _ _ rfl (heap_alloc2_new w _ _) Try.underlying183 rfl info_bit) rfl ⟨rfl, (((Below.refl _ _).alloc (Nat.le_refl _) _).alloc (by simp) _).drew⟩
          | refine bodyPost_ret (results_cell_tmp1 rfl _ _ _ _ _ _ _ rfl (heap_alloc_new w _) Try.underlying183 rfl info_bit) rfl ⟨rfl, ((Below.refl _ _).alloc (Nat.le_refl _) _).drew⟩
    | false =>
      have hr : bitPush left true unused b = some (bitC (left - 1) true unused) := by simp only [bitPush, t1, if_true, Bool.false_eq_true, if_false, Bool.true_and, Bool.false_and, Bool.and_true, Bool.and_false, Bool.or_true, Bool.or_false, Bool.true_or, Bool.false_or, Bool.not_true, Bool.not_false, Option.map_some, Option.map_none]
      rw [hr]
      clear hr
      go_enter Try.func130, Try.ntmps130
      go_wp2_with fail
      first
        | refine bodyPost_ret (results_cell_tmp1 rfl _ _ _ _ _ _ _ rfl (heap_alloc_new w _) Try.underlying183 rfl info_bit) rfl ⟨rfl, (Below.refl _ _).alloc (Nat.le_refl _) _⟩
        | refine bodyPost_ret (results_cell_tmp1 rfl _ _ _ _ _ _ _ rfl (heap_alloc2_old w _ _) Try.underlying183 rfl info_bit) rfl ⟨rfl, ((Below.refl _ _).alloc (Nat.le_refl _) _).alloc (by simp) _⟩
        | refine bodyPost_ret (results_cell_tmp1 rfl _ _ _ _ _ _ _ rfl (heap_alloc2_new w _ _) Try.underlying183 rfl info_bit) rfl ⟨rfl, ((Below.refl _ _).alloc (Nat.le_refl _) _).alloc (by simp) _⟩
        | refine bodyPost_ret (results_cell_tmp1 rfl _ _ _ _ _ _ _ rfl (heap_alloc2_old w _ _) Try.underlying183 rfl info_bit) rfl ⟨rfl, (((Below.refl _ _).alloc (Nat.le_refl _) _).alloc (by simp) _).drew⟩
        | refine bodyPost_ret (results_cell_tmp1 rfl _ _ _ _ _ _ _ rfl (heap_alloc2_new w _ _) Try.underlying183 rfl info_bit) rfl ⟨rfl, (((Below.refl _ _).alloc (Nat.le_refl _) _).alloc (by simp) _).drew⟩
        | refine bodyPost_ret (results_cell_tmp1 rfl _ _ _ _ _ _ _ rfl (heap_alloc_new w _) Try.underlying183 rfl info_bit) rfl ⟨rfl, ((Below.refl _ _).alloc (Nat.le_refl _) _).drew⟩
  | false =>
    cases t1 : decide (7 < b) with
    | true =>
      have hr : bitPush left false unused b = none := by simp only [bitPush, t1, if_true, Bool.false_eq_true, if_false, Bool.true_and, Bool.false_and, Bool.and_true, Bool.and_false, Bool.or_true, Bool.or_false, Bool.true_or, Bool.false_or, Bool.not_true, Bool.not_false, Option.map_some, Option.map_none]
      rw [hr]
      clear hr
      go_enter Try.func130, Try.ntmps130
      go_wp2_with fail
      first
        | refine bodyPost_ret (results_cell_tmp1 rfl _ _ _ _ _ _ _ rfl (heap_alloc_new w _) Try.underlying183 rfl info_bit) rfl ⟨rfl, (Below.refl _ _).alloc (Nat.le_refl _) _⟩
        | refine bodyPost_ret (results_cell_tmp1 rfl _ _ _ _ _ _ _ rfl (heap_alloc2_old w _ _) Try.underlying183 rfl info_bit) rfl ⟨rfl, ((Below.refl _ _).alloc (Nat.le_refl _) _).alloc (by simp) _⟩
        | refine bodyPost_ret (results_cell_tmp1 rfl _ _ _ _ _ _ _ rfl (heap_alloc2_new w _ _) Try.underlying183 rfl info_bit) rfl ⟨rfl, ((Below.refl _ _).alloc (Nat.le_refl _) _).alloc (by simp) _⟩
        | refine bodyPost_ret (results_cell_tmp1 rfl _ _ _ _ _ _ _ rfl (heap_alloc2_old w _ _) Try.underlying183 rfl info_bit) rfl ⟨rfl, (((Below.refl _ _).alloc (Nat.le_refl _) _).alloc (by simp) _).drew⟩
        | refine bodyPost_ret (results_cell_tmp1 rfl _ _ _ _ _ _ _ rfl (heap_alloc2_new w _ _) Try.underlying183 rfl info_bit) rfl ⟨rfl, (((Below.refl _ _).alloc (Nat.le_refl _) _).alloc (by simp) _).drew⟩
        | refine bodyPost_ret (results_cell_tmp1 rfl _ _ _ _ _ _ _ rfl (heap_alloc_new w _) Try.underlying183 rfl info_bit) rfl ⟨rfl, ((Below.refl _ _).alloc (Nat.le_refl _) _).drew⟩
    | false =>
      cases t2 : decide (0 < b) with
      | true =>
        cases t3 : (left - 1 == 0) with
        | true =>
          have hr : bitPush left false unused b = none := by simp only [bitPush, t1, t2, t3, if_true, Bool.false_eq_true, if_false, Bool.true_and, Bool.false_and, Bool.and_true, Bool.and_false, Bool.or_true, Bool.or_false, Bool.true_or, Bool.false_or, Bool.not_true, Bool.not_false, Option.map_some, Option.map_none]
          rw [hr]
          clear hr
          go_enter Try.func130, Try.ntmps130
          go_wp2_with fail
          first
            | refine bodyPost_ret (results_cell_tmp1 rfl _ _ _ _ _ _ _ rfl (heap_alloc_new w _) Try.underlying183 rfl info_bit) rfl ⟨rfl, (Below.refl _ _).alloc (Nat.le_refl _) _⟩
            | refine bodyPost_ret (results_cell_tmp1 rfl _ _ _ _ _ _ _ rfl (heap_alloc2_old w _ _) Try.underlying183 rfl info_bit) rfl ⟨rfl, ((Below.refl _ _).alloc (Nat.le_refl _) _).alloc (by simp) _⟩
            | refine bodyPost_ret (results_cell_tmp1 rfl _ _ _ _ _ _ _ rfl (heap_alloc2_new w _ _) Try.underlying183 rfl info_bit) rfl ⟨rfl, ((Below.refl _ _).alloc (Nat.le_refl _) _).alloc (by simp) _⟩
            | refine bodyPost_ret (results_cell_tmp1 rfl _ _ _ _ _ _ _ rfl (heap_alloc2_old w _ _) Try.underlying183 rfl info_bit) rfl ⟨rfl, (((Below.refl _ _).alloc (Nat.le_refl _) _).alloc (by simp) _).drew⟩
            | refine bodyPost_ret (results_cell_tmp1 rfl _ _ _ _ _ _ _ rfl (heap_alloc2_new w _ _) Try.underlying183 rfl info_bit) rfl ⟨rfl, (((Below.refl _ _).alloc (Nat.le_refl _) _).alloc (by simp) _).drew⟩
            | refine bodyPost_ret (results_cell_tmp1 rfl _ _ _ _ _ _ _ rfl (heap_alloc_new w _) Try.underlying183 rfl info_bit) rfl ⟨rfl, ((Below.refl _ _).alloc (Nat.le_refl _) _).drew⟩
        | false =>
          have hr : bitPush left false unused b = some (bitC (left - 1) true b) := by simp only [bitPush, t1, t2, t3, if_true, Bool.false_eq_true, if_false, Bool.true_and, Bool.false_and, Bool.and_true, Bool.and_false, Bool.or_true, Bool.or_false, Bool.true_or, Bool.false_or, Bool.not_true, Bool.not_false, Option.map_some, Option.map_none]
          rw [hr]
          clear hr
          go_enter Try.func130, Try.ntmps130
          go_wp2_with fail
          first
            | refine bodyPost_ret (results_cell_tmp1 rfl _ _ _ _ _ _ _ rfl (heap_alloc_new w _) Try.underlying183 rfl info_bit) rfl ⟨rfl, (Below.refl _ _).alloc (Nat.le_refl _) _⟩
            | refine bodyPost_ret (results_cell_tmp1 rfl _ _ _ _ _ _ _ rfl (heap_alloc2_old w _ _) Try.underlying183 rfl info_bit) rfl ⟨rfl, ((Below.refl _ _).alloc (Nat.le_refl _) _).alloc (by simp) _⟩
            | refine bodyPost_ret (results_cell_tmp1 rfl _ _ _ _ _ _ _ rfl (heap_alloc2_new w _ _) Try.underlying183 rfl info_bit) rfl ⟨rfl, ((Below.refl _ _).alloc (Nat.le_refl _) _).alloc (by simp) _⟩
            | refine bodyPost_ret (results_cell_tmp1 rfl _ _ _ _ _ _ _ rfl (heap_alloc2_old w _ _) Try.underlying183 rfl info_bit) rfl ⟨rfl, (((Below.refl _ _).alloc (Nat.le_refl _) _).alloc (by simp) _).drew⟩
            | refine bodyPost_ret (results_cell_tmp1 rfl _ _ _ _ _ _ _ rfl (heap_alloc2_new w _ _) Try.underlying183 rfl info_bit) rfl ⟨rfl, (((Below.refl _ _).alloc (Nat.le_refl _) _).alloc (by simp) _).drew⟩
            | refine bodyPost_ret (results_cell_tmp1 rfl _ _ _ _ _ _ _ rfl (heap_alloc_new w _) Try.underlying183 rfl info_bit) rfl ⟨rfl, ((Below.refl _ _).alloc (Nat.le_refl _) _).drew⟩
      | false =>
        have hr : bitPush left false unused b = some (bitC (left - 1) true b) := by simp only [bitPush, t1, t2, if_true, Bool.false_eq_true, if_false, Bool.true_and, Bool.false_and, Bool.and_true, Bool.and_false, Bool.or_true, Bool.or_false, Bool.true_or, Bool.false_or, Bool.not_true, Bool.not_false, Option.map_some, Option.map_none]
        rw [hr]
        clear hr
        go_enter Try.func130, Try.ntmps130
        go_wp2_with fail
        first
          | refine bodyPost_ret (results_cell_tmp1 rfl _ _ _ _ _ _ _ rfl (heap_alloc_new w _) Try.underlying183 rfl info_bit) rfl ⟨rfl, (Below.refl _ _).alloc (Nat.le_refl _) _⟩
          | refine bodyPost_ret (results_cell_tmp1 rfl _ _ _ _ _ _ _ rfl (heap_alloc2_old w _ _) Try.underlying183 rfl info_bit) rfl ⟨rfl, ((Below.refl _ _).alloc (Nat.le_refl _) _).alloc (by simp) _⟩
          | refine bodyPost_ret (results_cell_tmp1 rfl _ _ _ _ _ _ _ rfl (heap_alloc2_new w _ _) Try.underlying183 rfl info_bit) rfl ⟨rfl, ((Below.refl _ _).alloc (Nat.le_refl _) _).alloc (by simp) _⟩
          | refine bodyPost_ret (results_cell_tmp1 rfl _ _ _ _ _ _ _ rfl (heap_alloc2_old w _ _) Try.underlying183 rfl info_bit) rfl ⟨rfl, (((Below.refl _ _).alloc (Nat.le_refl _) _).alloc (by simp) _).drew⟩
          | refine bodyPost_ret (results_cell_tmp1 rfl _ _ _ _ _ _ _ rfl (heap_alloc2_new w _ _) Try.underlying183 rfl info_bit) rfl ⟨rfl, (((Below.refl _ _).alloc (Nat.le_refl _) _).alloc (by simp) _).drew⟩
          | refine bodyPost_ret (results_cell_tmp1 rfl _ _ _ _ _ _ _ rfl (heap_alloc_new w _) Try.underlying183 rfl info_bit) rfl ⟨rfl, ((Below.refl _ _).alloc (Nat.le_refl _) _).drew⟩
end Go.Proofs.Ytkabmmpccfeffaa
