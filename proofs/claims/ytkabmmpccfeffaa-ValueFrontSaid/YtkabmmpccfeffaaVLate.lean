/- Layer 13 (when): late, by contract. -/
import Derived.Test.YtkabmmpccfeffaaVMay
import Derived.Outline
import Derived.Deep.LoopGhost
namespace Go.Proofs.Ytkabmmpccfeffaa
open Go.RowKit
set_option linter.unusedVariables false
set_option linter.unusedSimpArgs false
/-- Can a year's first digits be one from 2050 on? -/
def lateB (s : ByteArray) : Bool := decide (2050 ≤ numL ((bytesOf s ++ List.replicate (4 - s.size) 57).take 4))
theorem bytesOf_append (a b : ByteArray) : bytesOf (a ++ b) = bytesOf a ++ bytesOf b := by simp [bytesOf]
set_option maxRecDepth 100000 in
set_option maxHeartbeats 1000000 in
theorem late_any (w : World) (s : ByteArray) (hs : s.size ≤ 14) (hd : AllDig s) : Calls Try.prog 193 #[.string s] w fun e w' => e = .returned (.bool (lateB s)) ∧ Below w.heap.size w w' := by
  have HD := Lib.hid hd
  clear hd
  go_enter Try.func193, Try.ntmps193
  go_wp2_with fail
  go_loopg [3] (4 - s.size) (fun k v wr => ∃ y : ByteArray, v = .string y ∧ y.size ≤ 14 ∧ Hid (4 - y.size ≤ k ∧ AllDig y ∧ wr = w ∧ bytesOf y ++ List.replicate (4 - y.size) 57 = bytesOf s ++ List.replicate (4 - s.size) 57))
  case atStart => exact ⟨s, rfl, hs, Lib.hid ⟨Nat.le_refl _, HD.out, rfl, rfl⟩⟩
  case round =>
    obtain ⟨y, rfl, hy, HY⟩ := hrel
    obtain rfl := HY.out.2.2.1
    by_cases hlt : y.size < 4
    · have d1 : (y.size : Int) < 4 := by omega
      go_wp2_with fail
      have h1 := HY.out.1
      have h4 := HY.out.2.2.2
      have hz : (y ++ (⟨#[57]⟩ : ByteArray)).size = y.size + 1 := by simp; rfl
      go_roundg (gk - 1)
      case measure => omega
      case rel =>
        refine ⟨_, rfl, by rw [hz]; omega, Lib.hid ⟨by rw [hz]; omega, ?_, rfl, ?_⟩⟩
        · intro x hx
          rw [bytesOf_append] at hx
          rcases List.mem_append.1 hx with h | h
          · exact HY.out.2.1 x h
          · have : x = 57 := by simpa [bytesOf] using h
            subst this
            exact ⟨by decide, by decide⟩
        · rw [hz, ← h4, bytesOf_append, List.append_assoc]
          congr 1
          obtain ⟨m, hm⟩ : ∃ m, 4 - y.size = m + 1 := ⟨4 - y.size - 1, by omega⟩
          rw [hm, show 4 - (y.size + 1) = m by omega]
          rfl
    · have d1 : (4 : Int) ≤ (y.size : Int) := by omega
      have nm := number_any wr (y.extract 0 4) (by simp; omega) (HY.out.2.1.extract 0 4)
      have e1 : numL (bytesOf (y.extract 0 4)) = numL ((bytesOf s ++ List.replicate (4 - s.size) 57).take 4) := by
        rw [bytesOf_extract, ← HY.out.2.2.2, show 4 - y.size = 0 by omega]
        simp
      rw [e1] at nm
      obtain ⟨v, hv⟩ : ∃ v, numL ((bytesOf s ++ List.replicate (4 - s.size) 57).take 4) = v := ⟨_, rfl⟩
      rw [hv] at nm
      have NM := Lib.hid nm
      have HV := Lib.hid hv
      clear nm e1 hv
      go_wp2_with (go_at_call 198; ((with_reducible refine NM.out.mono ?_); rintro e w2 ⟨rfl, rfl⟩))
      go_ret
      exact ⟨by unfold lateB; rw [HV.out]; rfl, Below.refl _ _⟩
end Go.Proofs.Ytkabmmpccfeffaa
