/- gantletref16.Great and Same, by contracts. -/
import Derived.Test.YtkabmmpccfeffaaSortQ
import Derived.Test.YtkabmmpccfeffaaRef16d
import Derived.WalkLawsBesides
namespace Go.Proofs.Ytkabmmpccfeffaa
open Go.RowKit
set_option linter.unusedVariables false
set_option linter.unusedSimpArgs false

/-- A slice of strings that is read. -/
def Strs (w : World) (A : Option Addr) (n : Nat) (ss : Nat → ByteArray) : Prop := ∀ i, i < n → ∃ ad, A = some ad ∧ w.cell? (ad.add i) = some (.string (ss i))
theorem Strs.below {w w' : World} {A : Option Addr} {n : Nat} {ss : Nat → ByteArray} (h : Strs w A n ss) (hb : Below w.heap.size w w') : Strs w' A n ss := fun i hi => by
  obtain ⟨ad, e, hc⟩ := h i hi
  exact ⟨ad, e, (hb.cell (World.block_lt_of_cell? w _ hc)).trans hc⟩
theorem Strs.drewN {w : World} {A : Option Addr} {n : Nat} {ss : Nat → ByteArray} (h : Strs w A n ss) (m : Nat) : Strs (w.drewN m) A n ss := h

set_option maxHeartbeats 2000000 in
theorem great_no {w : World} {A : Option Addr} {len cap : Nat} {ss : Nat → ByteArray} (h : Strs w A len ss) (h1 : len ≤ 100) (h2 : ∀ i, i < len → (ss i).size ≤ 300) :
    Calls Try.prog 29 #[.slice A len cap] w fun e w' => e = .returned (.bool false) ∧ w = w' := by
  have H := Lib.hid h
  have H2 := Lib.hid h2
  clear h h2
  go_enter Try.func29, Try.ntmps29
  go_wp2_with fail
  go_loop [3] (fun i => ∃ k : Nat, k ≤ len ∧ i = .int .i64 k) (fun i => len - (intOf i).toNat)
  case atStart => exact ⟨0, Nat.zero_le _, rfl⟩
  case round =>
    obtain ⟨k, hk, rfl⟩ := hrel
    by_cases hlt : k < len
    · obtain ⟨ad, rfl, hc⟩ := H.out k hlt
      have hs := H2.out k hlt
      go_wp2_with fail
      go_round
      case rel => exact ⟨k + 1, by omega, by go_num⟩
      case measure => simp [intOf]; omega
    · go_wp2_with fail
      go_ret
      exact ⟨rfl, rfl⟩

set_option maxHeartbeats 2000000 in
theorem great_yes {w : World} {A : Option Addr} {len cap : Nat} {ss : Nat → ByteArray} (h : Strs w A len ss) (h1 : len ≤ 100 → ∃ i, i < len ∧ 300 < (ss i).size) :
    Calls Try.prog 29 #[.slice A len cap] w fun e w' => e = .returned (.bool true) ∧ w = w' := by
  have H := Lib.hid h
  clear h
  by_cases hl : 100 < len
  · have hl' : (100 : Int) < (len : Int) := by omega
    clear h1
    go_enter Try.func29, Try.ntmps29
    go_wp2_with fail
    go_ret
    exact ⟨rfl, rfl⟩
  · obtain ⟨q, hq1, hq2⟩ := h1 (by omega)
    have hl' : (len : Int) ≤ 100 := by omega
    go_enter Try.func29, Try.ntmps29
    go_wp2_with fail
    go_loop [3] (fun i => ∃ k : Nat, k ≤ q ∧ i = .int .i64 k) (fun i => q + 1 - (intOf i).toNat)
    case atStart => exact ⟨0, Nat.zero_le _, rfl⟩
    case round =>
      obtain ⟨k, hk, rfl⟩ := hrel
      have hlt : k < len := by omega
      obtain ⟨ad, rfl, hc⟩ := H.out k hlt
      by_cases hs : 300 < (ss k).size
      · go_wp2_with fail
        go_ret
        exact ⟨rfl, rfl⟩
      · have hkq : k < q := by
          rcases Nat.lt_or_ge k q with h | h
          · exact h
          · exact absurd (show 300 < (ss k).size by rw [show k = q by omega]; exact hq2) hs
        go_wp2_with fail
        go_round
        case rel => exact ⟨k + 1, by omega, by go_num⟩
        case measure => simp [intOf]; omega

/-- Draws alone. -/
def Dr (w w' : World) : Prop := ∃ n, w' = w.drewN n
theorem Dr.below {w w' : World} (h : Dr w w') : Below w.heap.size w w' := by
  obtain ⟨n, rfl⟩ := h
  exact ⟨rfl, rfl, rfl, Nat.le_refl _, fun _ _ => rfl⟩

set_option maxHeartbeats 2000000 in
theorem same_yes {w : World} {A A2 : Option Addr} {len cap cap2 : Nat} {ss : Nat → ByteArray} (h : Strs w A len ss) (h2 : Strs w A2 len ss) (h1 : len ≤ 100) :
    Calls Try.prog 31 #[.slice A len cap, .slice A2 len cap2] w fun e w' => e = .returned (.bool true) ∧ Dr w w' := by
  have H := Lib.hid h
  have H2 := Lib.hid h2
  clear h h2
  have hne : ((len : Int) != (len : Int)) = false := by simp
  go_enter Try.func31, Try.ntmps31
  go_wp2_with fail
  go_loopw [5] (fun i wr => ∃ k q : Nat, k ≤ len ∧ i = .int .i64 k ∧ wr = w.drewN q) (fun i _ => len - (intOf i).toNat)
  case atStart => exact ⟨0, 0, Nat.zero_le _, rfl, rfl⟩
  case round =>
    obtain ⟨k, q, hk, rfl, rfl⟩ := hrel
    by_cases hlt : k < len
    · obtain ⟨ad, rfl, hc⟩ := H.out k hlt
      obtain ⟨ad2, rfl, hc2⟩ := H2.out k hlt
      have b0 : (0 : Int) ≤ (k : Int) := by omega
      have b1 : (k : Int) < (len : Int) := by omega
      go_wp2_with fail
      go_quiet (fail)
      go_wp2_with fail
      go_roundw
      case rel => exact ⟨k + 1, _, by omega, by go_num, by first | rfl | exact World.drewN_drewN _ _ _⟩
      case measure => simp [intOf]; omega
    · go_wp2_with fail
      go_ret
      exact ⟨rfl, q, rfl⟩
end Go.Proofs.Ytkabmmpccfeffaa
