/- The statement's own check of package order (awake): it answers true. -/
import Derived.Test.YtkabmmpccfeffaaSorter2
namespace Go.Proofs.Ytkabmmpccfeffaa
open Go.RowKit
set_option linter.unusedVariables false
set_option linter.unusedSimpArgs false

set_option maxRecDepth 100000 in
set_option maxHeartbeats 4000000 in
theorem oawake_any (w : World) :
    Calls Try.prog 18 #[] w fun e w' => e = .returned (.bool true) ∧ Below w.heap.size w w' := by
  have c1 : cmp ⟨#[1]⟩ ⟨#[1, 0]⟩ = 0 := by decide
  have c2 : cmp ⟨#[1, 1]⟩ ⟨#[1]⟩ = 1 := by decide
  have c3 : ¬ 0 < cmp (strOfNums []) (strOfNums [2]) := by decide
  have c4 : 0 < cmp (strOfNums [2]) (strOfNums [1]) := by decide
  have C1 := Lib.hid c1
  have C2 := Lib.hid c2
  have C3 := Lib.hid c3
  have C4 := Lib.hid c4
  clear c1 c2 c3 c4
  go_enter Try.func18, Try.ntmps18
  go_wp2_with fail
  refine (new_any 2 _).mono ?_
  rintro e w1 ⟨rfl, hs1, hb1⟩
  have hz : w.heap.size ≤ w1.heap.size := hb1.size
  have HS1 : Hid (IsSorter w1 w.heap.size w.heap.size 2 [] [] false 0) := hs1
  have HB1 := Lib.hid hb1
  clear hs1 hb1
  go_wp2_with fail
  refine (push_add HS1.out 2 (by decide) hz).mono ?_
  rintro e w2 ⟨rfl, hs2, hk2⟩
  have HS2 := Lib.hid hs2
  have HK2 := Lib.hid hk2
  clear hs2 hk2
  go_wp2_with fail
  refine (end_first HS2.out).mono ?_
  rintro e w3 ⟨rfl, hs3, hk3⟩
  have hz3 : w.heap.size ≤ w3.heap.size := Nat.le_trans (Nat.le_trans hz HK2.out.size) hk3.size
  have HS3 := Lib.hid hs3
  have HK3 := Lib.hid hk3
  clear hs3 hk3
  go_wp2_with fail
  refine (push_add HS3.out 1 (by decide) hz3).mono ?_
  rintro e w4 ⟨rfl, hs4, hk4⟩
  have HS4 := Lib.hid hs4
  have HK4 := Lib.hid hk4
  clear hs4 hk4
  go_wp2_with fail
  refine (end_wrong HS4.out C4.out).mono ?_
  rintro e w5 ⟨rfl, hs5, hk5⟩
  have HS5 := Lib.hid hs5
  have HK5 := Lib.hid hk5
  clear hs5 hk5
  go_wp2_with fail
  refine (push_over HS5.out 9 (by decide)).mono ?_
  rintro e w6 ⟨rfl, hs6, hk6⟩
  have HS6 := Lib.hid hs6
  have HK6 := Lib.hid hk6
  clear hs6 hk6
  go_wp2_with fail
  refine (reset_any HS6.out).mono ?_
  rintro e w7 ⟨rfl, hs7, hk7⟩
  have hz7 : w.heap.size ≤ w7.heap.size := Nat.le_trans hz3 (Nat.le_trans HK4.out.size (Nat.le_trans HK5.out.size (Nat.le_trans HK6.out.size hk7.size)))
  have HS7 := Lib.hid hs7
  have HK7 := Lib.hid hk7
  clear hs7 hk7
  go_wp2_with fail
  refine (push_add HS7.out 1 (by decide) hz7).mono ?_
  rintro e w8 ⟨rfl, hs8, hk8⟩
  have hz8 : w.heap.size ≤ w8.heap.size := Nat.le_trans hz7 hk8.size
  have HS8 := Lib.hid hs8
  have HK8 := Lib.hid hk8
  clear hs8 hk8
  go_wp2_with fail
  refine (push_add HS8.out 1 (by decide) hz8).mono ?_
  rintro e w9 ⟨rfl, hs9, hk9⟩
  have HS9 := Lib.hid hs9
  have HK9 := Lib.hid hk9
  clear hs9 hk9
  go_wp2_with fail
  refine (push_full HS9.out 1 (by decide)).mono ?_
  rintro e w10 ⟨rfl, hs10, hk10⟩
  have HK10 := Lib.hid hk10
  clear hs10 hk10
  go_wp2_with fail
  refine (compare_any _ _ _ (by decide) (by decide)).mono ?_
  rintro e w11 ⟨rfl, rfl⟩
  rw [C1.out]
  go_wp2_with fail
  refine (compare_any _ _ _ (by decide) (by decide)).mono ?_
  rintro e w11 ⟨rfl, rfl⟩
  rw [C2.out]
  go_wp2_with fail
  go_ret
  refine ⟨rfl, HB1.out.trans ?_⟩
  exact ((((((((HK2.out.trans HK3.out).trans HK4.out).trans HK5.out).trans HK6.out).trans HK7.out).trans HK8.out).trans HK9.out).trans HK10.out).below hz
end Go.Proofs.Ytkabmmpccfeffaa
