/- Layer 13 (when): may, late, by contracts. -/
import Derived.Test.YtkabmmpccfeffaaVSpan
import Derived.Outline
namespace Go.Proofs.Ytkabmmpccfeffaa
open Go.RowKit
set_option linter.unusedVariables false
set_option linter.unusedSimpArgs false
/-- Can digits be a date's beginning, the last one being new? -/
def mayB (s : ByteArray) : Bool :=
  if s.size ≤ 4 then true
  else if s.size % 2 = 1 then decide ((spanOf s ((s.size - 1) / 2 * 2 : Nat)).1 / 10 ≤ numL ((bytesOf s).drop ((s.size - 1) / 2 * 2))) && decide (numL ((bytesOf s).drop ((s.size - 1) / 2 * 2)) ≤ (spanOf s ((s.size - 1) / 2 * 2 : Nat)).2 / 10)
  else decide ((spanOf s ((s.size - 1) / 2 * 2 : Nat)).1 ≤ numL ((bytesOf s).drop ((s.size - 1) / 2 * 2))) && decide (numL ((bytesOf s).drop ((s.size - 1) / 2 * 2)) ≤ (spanOf s ((s.size - 1) / 2 * 2 : Nat)).2)
set_option maxRecDepth 100000 in
set_option maxHeartbeats 400000 in
theorem may_short (w : World) (s : ByteArray) (hs : s.size ≤ 4) : Calls Try.prog 192 #[.string s] w fun e w' => e = .returned (.bool (mayB s)) ∧ Below w.heap.size w w' := by
  have e1 : mayB s = true := by unfold mayB; rw [if_pos hs]
  rw [e1]
  have t1 : decide ((s.size : Int) ≤ 4) = true := decide_eq_true (by omega)
  have t2 : (s.size : Int) ≤ 4 := by omega
  clear e1
  go_enter Try.func192, Try.ntmps192
  go_wp2_with fail
  go_ret
  exact ⟨rfl, Below.refl _ _⟩
theorem andNot1 : ∀ n : Nat, n < 14 → bits .andNot .i64 (n : Int) 1 = ((n / 2 * 2 : Nat) : Int) := by decide
theorem daysOf_range (y m : Int) : 0 ≤ daysOf y m ∧ daysOf y m ≤ 31 := by
  unfold daysOf monthDays
  repeat' split
  all_goals omega
theorem spanOf_range (s : ByteArray) (at_ : Int) : 0 ≤ (spanOf s at_).1 ∧ 0 ≤ (spanOf s at_).2 ∧ (spanOf s at_).1 ≤ 59 ∧ (spanOf s at_).2 ≤ 59 := by
  unfold spanOf
  repeat' split
  all_goals (first | exact ⟨by decide, by decide, by decide, by decide⟩ | exact ⟨by simp, (daysOf_range _ _).1, by simp, Int.le_trans (daysOf_range _ _).2 (by decide)⟩)
set_option maxRecDepth 100000 in
set_option maxHeartbeats 1000000 in
theorem may_long (w : World) (s : ByteArray) (hs : 4 < s.size) (hs2 : s.size ≤ 14) (hd : AllDig s) : Calls Try.prog 192 #[.string s] w fun e w' => e = .returned (.bool (mayB s)) ∧ Below w.heap.size w w' := by
  have t1 : decide ((s.size : Int) ≤ 4) = false := decide_eq_false (by omega)
  have t2 : 4 < (s.size : Int) := by omega
  have e1 : mayB s = if s.size % 2 = 1 then decide ((spanOf s ((s.size - 1) / 2 * 2 : Nat)).1 / 10 ≤ numL ((bytesOf s).drop ((s.size - 1) / 2 * 2))) && decide (numL ((bytesOf s).drop ((s.size - 1) / 2 * 2)) ≤ (spanOf s ((s.size - 1) / 2 * 2 : Nat)).2 / 10)
      else decide ((spanOf s ((s.size - 1) / 2 * 2 : Nat)).1 ≤ numL ((bytesOf s).drop ((s.size - 1) / 2 * 2))) && decide (numL ((bytesOf s).drop ((s.size - 1) / 2 * 2)) ≤ (spanOf s ((s.size - 1) / 2 * 2 : Nat)).2) := by
    unfold mayB; rw [if_neg (by omega)]
  rw [e1]
  have hk := andNot1 (s.size - 1) (by omega)
  rw [show ((s.size - 1 : Nat) : Int) = (s.size : Int) - 1 by omega] at hk
  have hk2 : (s.size - 1) / 2 * 2 < s.size := by omega
  generalize (s.size - 1) / 2 * 2 = k at hk hk2 ⊢
  have sp := fun W => span_any W s k (by omega) hs2 hd
  have sr := spanOf_range s k
  unfold SpanPost at sp
  generalize spanOf s k = r at sp sr ⊢
  obtain ⟨lo, hi⟩ := r
  simp only at sp sr ⊢
  obtain ⟨sr1, sr2, sr3, sr4⟩ := sr
  have hv : numL (bytesOf (s.extract k s.size)) = numL ((bytesOf s).drop k) := by rw [bytesOf_extract, List.take_of_length_le (by rw [bytesOf_length]; omega)]
  generalize numL ((bytesOf s).drop k) = v at hv ⊢
  have SP := Lib.hid sp
  have HV := Lib.hid hv
  have HD := Lib.hid hd
  have g1 : (k : Int) ≤ (s.size : Int) := by omega
  have g0 : (0 : Int) ≤ (k : Int) := by omega
  clear sp hv hd e1
  by_cases par : s.size % 2 = 1
  · have t3 : ((s.size : Int) % 2 == 1) = true := by rw [beq_iff_eq]; omega
    simp only [if_pos par]
    clear par
    cases u1 : decide (lo / 10 ≤ v)
    all_goals
      go_enter Try.func192, Try.ntmps192
      go_wp2_with fail
      refine (SP.out _).mono ?_
      rintro e w1 ⟨rfl, hb⟩
      have n1 := number_any w1 (s.extract k s.size) (by simp; omega) (HD.out.extract k s.size)
      rw [HV.out] at n1
      have N1 := Lib.hid n1
      have HB := Lib.hid hb
      clear n1 hb
      go_wp2_with (go_at_call 198; ((with_reducible refine N1.out.mono ?_); rintro e w2 ⟨rfl, rfl⟩))
      go_ret
      exact ⟨rfl, HB.out⟩
  · have t3 : ((s.size : Int) % 2 == 1) = false := by rw [beq_eq_false_iff_ne]; omega
    simp only [if_neg par]
    clear par
    cases u1 : decide (lo ≤ v)
    all_goals
      go_enter Try.func192, Try.ntmps192
      go_wp2_with fail
      refine (SP.out _).mono ?_
      rintro e w1 ⟨rfl, hb⟩
      have n1 := number_any w1 (s.extract k s.size) (by simp; omega) (HD.out.extract k s.size)
      rw [HV.out] at n1
      have N1 := Lib.hid n1
      have HB := Lib.hid hb
      clear n1 hb
      go_wp2_with (go_at_call 198; ((with_reducible refine N1.out.mono ?_); rintro e w2 ⟨rfl, rfl⟩))
      go_ret
      exact ⟨rfl, HB.out⟩
theorem may_any (w : World) (s : ByteArray) (hs2 : s.size ≤ 14) (hd : AllDig s) : Calls Try.prog 192 #[.string s] w fun e w' => e = .returned (.bool (mayB s)) ∧ Below w.heap.size w w' := by
  by_cases h : s.size ≤ 4
  · exact may_short w s h
  · exact may_long w s (by omega) hs2 hd
end Go.Proofs.Ytkabmmpccfeffaa
