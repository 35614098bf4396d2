/- Layer 13 (when): Days, span, may, late, by contracts. -/
import Derived.Test.YtkabmmpccfeffaaVWhen
namespace Go.Proofs.Ytkabmmpccfeffaa
open Go.RowKit
set_option linter.unusedVariables false
set_option linter.unusedSimpArgs false
def monthDays (m : Int) : Int := if m = 2 then 28 else if m = 4 ∨ m = 6 ∨ m = 9 ∨ m = 11 then 30 else 31
def isLeap (y : Int) : Bool := (y % 4 == 0) && (y % 100 != 0) || (y % 400 == 0)
/-- How many days a month has. -/
def daysOf (y m : Int) : Int := if m < 1 ∨ 12 < m then 0 else if m = 2 ∧ isLeap y = true then 29 else monthDays m

theorem idx_0 : ∀ W : World, (Instr.index 258 (.agg #[.int .i64 31, .int .i64 28, .int .i64 31, .int .i64 30, .int .i64 31, .int .i64 30, .int .i64 31, .int .i64 31, .int .i64 30, .int .i64 31, .int .i64 30, .int .i64 31]) (.int .i64 0)).run Try.prog W = .ok (.int .i64 31) W := fun _ => by kernel_rfl
theorem idx_1 : ∀ W : World, (Instr.index 258 (.agg #[.int .i64 31, .int .i64 28, .int .i64 31, .int .i64 30, .int .i64 31, .int .i64 30, .int .i64 31, .int .i64 31, .int .i64 30, .int .i64 31, .int .i64 30, .int .i64 31]) (.int .i64 1)).run Try.prog W = .ok (.int .i64 28) W := fun _ => by kernel_rfl
theorem idx_2 : ∀ W : World, (Instr.index 258 (.agg #[.int .i64 31, .int .i64 28, .int .i64 31, .int .i64 30, .int .i64 31, .int .i64 30, .int .i64 31, .int .i64 31, .int .i64 30, .int .i64 31, .int .i64 30, .int .i64 31]) (.int .i64 2)).run Try.prog W = .ok (.int .i64 31) W := fun _ => by kernel_rfl
theorem idx_3 : ∀ W : World, (Instr.index 258 (.agg #[.int .i64 31, .int .i64 28, .int .i64 31, .int .i64 30, .int .i64 31, .int .i64 30, .int .i64 31, .int .i64 31, .int .i64 30, .int .i64 31, .int .i64 30, .int .i64 31]) (.int .i64 3)).run Try.prog W = .ok (.int .i64 30) W := fun _ => by kernel_rfl
theorem idx_4 : ∀ W : World, (Instr.index 258 (.agg #[.int .i64 31, .int .i64 28, .int .i64 31, .int .i64 30, .int .i64 31, .int .i64 30, .int .i64 31, .int .i64 31, .int .i64 30, .int .i64 31, .int .i64 30, .int .i64 31]) (.int .i64 4)).run Try.prog W = .ok (.int .i64 31) W := fun _ => by kernel_rfl
theorem idx_5 : ∀ W : World, (Instr.index 258 (.agg #[.int .i64 31, .int .i64 28, .int .i64 31, .int .i64 30, .int .i64 31, .int .i64 30, .int .i64 31, .int .i64 31, .int .i64 30, .int .i64 31, .int .i64 30, .int .i64 31]) (.int .i64 5)).run Try.prog W = .ok (.int .i64 30) W := fun _ => by kernel_rfl
theorem idx_6 : ∀ W : World, (Instr.index 258 (.agg #[.int .i64 31, .int .i64 28, .int .i64 31, .int .i64 30, .int .i64 31, .int .i64 30, .int .i64 31, .int .i64 31, .int .i64 30, .int .i64 31, .int .i64 30, .int .i64 31]) (.int .i64 6)).run Try.prog W = .ok (.int .i64 31) W := fun _ => by kernel_rfl
theorem idx_7 : ∀ W : World, (Instr.index 258 (.agg #[.int .i64 31, .int .i64 28, .int .i64 31, .int .i64 30, .int .i64 31, .int .i64 30, .int .i64 31, .int .i64 31, .int .i64 30, .int .i64 31, .int .i64 30, .int .i64 31]) (.int .i64 7)).run Try.prog W = .ok (.int .i64 31) W := fun _ => by kernel_rfl
theorem idx_8 : ∀ W : World, (Instr.index 258 (.agg #[.int .i64 31, .int .i64 28, .int .i64 31, .int .i64 30, .int .i64 31, .int .i64 30, .int .i64 31, .int .i64 31, .int .i64 30, .int .i64 31, .int .i64 30, .int .i64 31]) (.int .i64 8)).run Try.prog W = .ok (.int .i64 30) W := fun _ => by kernel_rfl
theorem idx_9 : ∀ W : World, (Instr.index 258 (.agg #[.int .i64 31, .int .i64 28, .int .i64 31, .int .i64 30, .int .i64 31, .int .i64 30, .int .i64 31, .int .i64 31, .int .i64 30, .int .i64 31, .int .i64 30, .int .i64 31]) (.int .i64 9)).run Try.prog W = .ok (.int .i64 31) W := fun _ => by kernel_rfl
theorem idx_10 : ∀ W : World, (Instr.index 258 (.agg #[.int .i64 31, .int .i64 28, .int .i64 31, .int .i64 30, .int .i64 31, .int .i64 30, .int .i64 31, .int .i64 31, .int .i64 30, .int .i64 31, .int .i64 30, .int .i64 31]) (.int .i64 10)).run Try.prog W = .ok (.int .i64 30) W := fun _ => by kernel_rfl
theorem idx_11 : ∀ W : World, (Instr.index 258 (.agg #[.int .i64 31, .int .i64 28, .int .i64 31, .int .i64 30, .int .i64 31, .int .i64 30, .int .i64 31, .int .i64 31, .int .i64 30, .int .i64 31, .int .i64 30, .int .i64 31]) (.int .i64 11)).run Try.prog W = .ok (.int .i64 31) W := fun _ => by kernel_rfl

set_option maxRecDepth 100000 in
set_option maxHeartbeats 4000000 in
theorem days_any (w : World) (y m : Int) (h0 : 0 ≤ y) (h1 : y ≤ 9999) : Calls Try.prog 200 #[.int .i64 y, .int .i64 m] w fun e w' => e = .returned (.int .i64 (daysOf y m)) ∧ w' = w := by
  have q1 : decide (y < 0) = false := decide_eq_false (by omega)
  have q2 : decide (9999 < y) = false := decide_eq_false (by omega)
  by_cases hm : m < 1 ∨ 12 < m
  · have e1 : daysOf y m = 0 := by unfold daysOf; rw [if_pos hm]
    rw [e1]
    clear e1
    by_cases hm1 : m < 1
    · have q3 : decide (m < 1) = true := decide_eq_true hm1
      clear hm hm1
      go_enter Try.func200, Try.ntmps200
      go_wp2_with fail
      go_ret
      exact ⟨rfl, rfl⟩
    · have q3 : decide (m < 1) = false := decide_eq_false hm1
      have q4 : decide (12 < m) = true := decide_eq_true (by omega)
      clear hm hm1
      go_enter Try.func200, Try.ntmps200
      go_wp2_with fail
      go_ret
      exact ⟨rfl, rfl⟩
  · have hc : m = 1 ∨ m = 3 ∨ m = 4 ∨ m = 5 ∨ m = 6 ∨ m = 7 ∨ m = 8 ∨ m = 9 ∨ m = 10 ∨ m = 11 ∨ m = 12 ∨ m = 2 := by omega
    clear hm
    rcases hc with rfl | rfl | rfl | rfl | rfl | rfl | rfl | rfl | rfl | rfl | rfl | rfl
    · have ix := idx_0
      go_enter Try.func200, Try.ntmps200
      go_wp2_with fail
      go_ret
      exact ⟨rfl, rfl⟩
    · have ix := idx_2
      go_enter Try.func200, Try.ntmps200
      go_wp2_with fail
      go_ret
      exact ⟨rfl, rfl⟩
    · have ix := idx_3
      go_enter Try.func200, Try.ntmps200
      go_wp2_with fail
      go_ret
      exact ⟨rfl, rfl⟩
    · have ix := idx_4
      go_enter Try.func200, Try.ntmps200
      go_wp2_with fail
      go_ret
      exact ⟨rfl, rfl⟩
    · have ix := idx_5
      go_enter Try.func200, Try.ntmps200
      go_wp2_with fail
      go_ret
      exact ⟨rfl, rfl⟩
    · have ix := idx_6
      go_enter Try.func200, Try.ntmps200
      go_wp2_with fail
      go_ret
      exact ⟨rfl, rfl⟩
    · have ix := idx_7
      go_enter Try.func200, Try.ntmps200
      go_wp2_with fail
      go_ret
      exact ⟨rfl, rfl⟩
    · have ix := idx_8
      go_enter Try.func200, Try.ntmps200
      go_wp2_with fail
      go_ret
      exact ⟨rfl, rfl⟩
    · have ix := idx_9
      go_enter Try.func200, Try.ntmps200
      go_wp2_with fail
      go_ret
      exact ⟨rfl, rfl⟩
    · have ix := idx_10
      go_enter Try.func200, Try.ntmps200
      go_wp2_with fail
      go_ret
      exact ⟨rfl, rfl⟩
    · have ix := idx_11
      go_enter Try.func200, Try.ntmps200
      go_wp2_with fail
      go_ret
      exact ⟨rfl, rfl⟩
    · have ix := idx_1
      go_enter Try.func200, Try.ntmps200
      go_wp2_with fail
      · have z1 : y % 4 = 0 := by with_reducible assumption
        have z2 : y % 100 = 0 := by with_reducible assumption
        have z3 : (y % 400 == 0) = true := by with_reducible assumption
        have e1 : daysOf y 2 = 29 := by simp [daysOf, isLeap, monthDays, z1, z2, z3]
        rw [e1]
        go_ret
        exact ⟨rfl, rfl⟩
      · have z1 : y % 4 = 0 := by with_reducible assumption
        have z2 : y % 100 = 0 := by with_reducible assumption
        have z3 : (y % 400 == 0) = false := by with_reducible assumption
        have e1 : daysOf y 2 = 28 := by simp [daysOf, isLeap, monthDays, z1, z2, z3]
        rw [e1]
        go_ret
        exact ⟨rfl, rfl⟩
      · have z1 : y % 4 = 0 := by with_reducible assumption
        have z2 : ¬y % 100 = 0 := by with_reducible assumption
        have e1 : daysOf y 2 = 29 := by simp [daysOf, isLeap, monthDays, z1, z2]
        rw [e1]
        go_ret
        exact ⟨rfl, rfl⟩
      · have z1 : ¬y % 4 = 0 := by with_reducible assumption
        have z3 : (y % 400 == 0) = false := by with_reducible assumption
        have e1 : daysOf y 2 = 28 := by simp [daysOf, isLeap, monthDays, z1, z3]
        rw [e1]
        go_ret
        exact ⟨rfl, rfl⟩

end Go.Proofs.Ytkabmmpccfeffaa
