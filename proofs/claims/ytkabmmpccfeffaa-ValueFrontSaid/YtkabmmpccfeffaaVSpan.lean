/- Layer 13 (when): span, may, late, by contracts. -/
import Derived.Test.YtkabmmpccfeffaaVDays
import Derived.Outline
namespace Go.Proofs.Ytkabmmpccfeffaa
open Go.RowKit
set_option linter.unusedVariables false
set_option linter.unusedSimpArgs false
/-- The least and the greatest number of two digits that can stand at a place of a date. -/
def spanOf (date : ByteArray) (at_ : Int) : Int × Int :=
  if at_ = 4 then (1, 12) else if at_ = 6 then (1, daysOf (numL ((bytesOf date).take 4)) (numL (((bytesOf date).take 6).drop 4))) else if at_ = 8 then (0, 23) else (0, 59)
def SpanPost (w : World) (r : Int × Int) (e : Ending) (w' : World) : Prop := e = .returned (.tuple #[.int .i64 r.1, .int .i64 r.2]) ∧ Below w.heap.size w w'
def AllDig (s : ByteArray) : Prop := ∀ x ∈ bytesOf s, 48 ≤ x ∧ x ≤ 57
theorem bytesOf_extract (s : ByteArray) (i j : Nat) : bytesOf (s.extract i j) = ((bytesOf s).take j).drop i := by
  unfold bytesOf
  have h := congrArg Array.toList (ByteArray.data_extract (a := s) (b := i) (e := j))
  rw [h, Array.toList_extract, List.extract_eq_take_drop, ← List.drop_take, List.map_drop, List.map_take]
theorem AllDig.extract {s : ByteArray} (h : AllDig s) (i j : Nat) : AllDig (s.extract i j) := by
  intro x hx
  rw [bytesOf_extract] at hx
  exact h x (List.mem_of_mem_take (List.mem_of_mem_drop hx))
set_option maxRecDepth 100000 in
set_option maxHeartbeats 400000 in
theorem span_day (w : World) (s : ByteArray) (hs : 6 ≤ s.size) (hs2 : s.size ≤ 14) (hd : AllDig s) : Calls Try.prog 197 #[.string s, .int .i64 6] w (SpanPost w (spanOf s 6)) := by
  have n1 := fun n => Calls.quiet_of_same (number_any (w.drewN n) (s.extract 0 4) (by simp; omega) (hd.extract 0 4))
  have n2 := fun n => Calls.quiet_of_same (number_any (w.drewN n) (s.extract 4 6) (by simp; omega) (hd.extract 4 6))
  have r1 := numL_range _ (hd.extract 0 4)
  have l1 : (bytesOf (s.extract 0 4)).length = 4 := by rw [bytesOf_length]; simp; omega
  rw [l1] at r1
  have dy := fun n m => Calls.quiet_of_same (days_any (w.drewN n) (numL (bytesOf (s.extract 0 4))) m r1.1 (by have := r1.2; omega))
  have e1 : spanOf s 6 = (1, daysOf (numL (bytesOf (s.extract 0 4))) (numL (bytesOf (s.extract 4 6)))) := by
    unfold spanOf
    rw [if_neg (by decide), if_pos rfl, bytesOf_extract, bytesOf_extract]; rfl
  rw [e1]
  generalize numL (bytesOf (s.extract 0 4)) = y at n1 dy ⊢
  generalize numL (bytesOf (s.extract 4 6)) = m at n2 ⊢
  have N1 := Lib.hid n1
  have N2 := Lib.hid n2
  have DY := Lib.hid dy
  have g1 : (4 : Int) ≤ (s.size : Int) := by omega
  have g2 : (6 : Int) ≤ (s.size : Int) := by omega
  clear n1 n2 r1 l1 dy e1
  go_enter Try.func197, Try.ntmps197
  go_wp2_with fail
  go_quiet (first | (go_at_call 200; with_reducible exact DY.out _ _) | (go_at_call 198; first | (with_reducible exact N1.out _) | (with_reducible exact N2.out _)))
  go_wp2_with fail
  go_ret2
  exact ⟨rfl, below_drewN (Below.refl _ _) _⟩
set_option maxRecDepth 100000 in
set_option maxHeartbeats 400000 in
theorem span_else (w : World) (s : ByteArray) (at_ : Int) (ha : at_ ≠ 6) : Calls Try.prog 197 #[.string s, .int .i64 at_] w (SpanPost w (spanOf s at_)) := by
  have t6 : (at_ == 6) = false := beq_eq_false_iff_ne.2 ha
  cases t4 : (at_ == 4) with
  | true =>
    have e1 : spanOf s at_ = (1, 12) := by unfold spanOf; rw [if_pos (by simpa using t4)]
    rw [e1]
    clear e1 ha
    go_enter Try.func197, Try.ntmps197
    go_wp2_with fail
    go_ret2
    exact ⟨rfl, Below.refl _ _⟩
  | false =>
    cases t8 : (at_ == 8) with
    | true =>
      have e1 : spanOf s at_ = (0, 23) := by unfold spanOf; rw [if_neg (by simpa using t4), if_neg ha, if_pos (by simpa using t8)]
      rw [e1]
      clear e1 ha
      go_enter Try.func197, Try.ntmps197
      go_wp2_with fail
      go_ret2
      exact ⟨rfl, Below.refl _ _⟩
    | false =>
      have e1 : spanOf s at_ = (0, 59) := by unfold spanOf; rw [if_neg (by simpa using t4), if_neg ha, if_neg (by simpa using t8)]
      rw [e1]
      clear e1 ha
      go_enter Try.func197, Try.ntmps197
      go_wp2_with fail
      go_ret2
      exact ⟨rfl, Below.refl _ _⟩
theorem span_any (w : World) (s : ByteArray) (at_ : Int) (ha : at_ < s.size) (hs2 : s.size ≤ 14) (hd : AllDig s) : Calls Try.prog 197 #[.string s, .int .i64 at_] w (SpanPost w (spanOf s at_)) := by
  by_cases h : at_ = 6
  · subst h; exact span_day w s (by omega) hs2 hd
  · exact span_else w s at_ h
end Go.Proofs.Ytkabmmpccfeffaa
