/- The statements' own check of package value (awake): it answers true. -/
import Derived.Test.YtkabmmpccfeffaaVWf
namespace Go.Proofs.Ytkabmmpccfeffaa
open Go.RowKit
set_option linter.unusedVariables false
set_option linter.unusedSimpArgs false
theorem vw1 : vWhole ⟨#[1, 1, 5]⟩ 9 = (7, 2) := by decide +kernel
theorem vw2 : vWhole ⟨#[36, 0]⟩ 9 = (7, 1) := by decide +kernel
theorem vw3 : vWhole ⟨#[48, 3, 2, 1, 5]⟩ 9 = (0, 5) := by decide +kernel
theorem vw4 : vWhole ⟨#[16, 0]⟩ 9 = (7, 1) := by decide +kernel
set_option maxRecDepth 100000 in
set_option maxHeartbeats 4000000 in
theorem vawake_any (w : World) : Calls Try.prog 33 #[] w fun e w' => e = .returned (.bool true) ∧ Below w.heap.size w w' := by
  have c1 := fun W => vw_any W ⟨#[1, 1, 5]⟩ 9 (by decide)
  have c2 := fun W => vw_any W ⟨#[36, 0]⟩ 9 (by decide)
  have c3 := fun W => vw_any W ⟨#[48, 3, 2, 1, 5]⟩ 9 (by decide)
  have c4 := fun W => vw_any W ⟨#[16, 0]⟩ 9 (by decide)
  unfold VPost at c1 c2 c3 c4
  rw [vw1] at c1
  rw [vw2] at c2
  rw [vw3] at c3
  rw [vw4] at c4
  simp only at c1 c2 c3 c4
  have C1 := Lib.hid c1
  have C2 := Lib.hid c2
  have C3 := Lib.hid c3
  have C4 := Lib.hid c4
  clear c1 c2 c3 c4
  go_enter Try.func33, Try.ntmps33
  go_wp2_with fail
  refine (C1.out _).mono ?_
  rintro e w1 ⟨rfl, hb1⟩
  have B1 := Lib.hid hb1
  clear hb1
  go_wp2_with fail
  refine (C2.out _).mono ?_
  rintro e w2 ⟨rfl, hb2⟩
  have B2 := Lib.hid (B1.out.trans (hb2.mono B1.out.size))
  clear hb2
  go_wp2_with fail
  refine (C3.out _).mono ?_
  rintro e w3 ⟨rfl, hb3⟩
  have B3 := Lib.hid (B2.out.trans (hb3.mono B2.out.size))
  clear hb3
  go_wp2_with fail
  refine (C4.out _).mono ?_
  rintro e w4 ⟨rfl, hb4⟩
  have B4 := Lib.hid (B3.out.trans (hb4.mono B3.out.size))
  clear hb4
  go_wp2_with fail
  go_ret
  exact ⟨rfl, B4.out⟩
end Go.Proofs.Ytkabmmpccfeffaa
