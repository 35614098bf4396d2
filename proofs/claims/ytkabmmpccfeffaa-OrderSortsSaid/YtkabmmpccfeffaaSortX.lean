/- slices.rotateCmpFunc at strings: by contract. -/
import Derived.Test.YtkabmmpccfeffaaSortW
namespace Go.Proofs.Ytkabmmpccfeffaa
open Go.RowKit
set_option linter.unusedVariables false
set_option linter.unusedSimpArgs false

theorem swapRange_at (d : Nat → ByteArray) {w : World} {g n cap a b k : Nat} {σ : Nat → Nat} {A B K : Int} (hA : A = a) (hB : B = b) (hK : K = k) (H : Holds w g n cap d σ) (hab : a + k ≤ b) (hb : b + k ≤ n) (hn : n ≤ 1000000) :
    Calls Try.prog 188 #[.slice (some ⟨g, 0, none⟩) n cap, .int .i64 A, .int .i64 B, .int .i64 K, .func (.func 66) #[] #[]] w fun e w' => e = .returned (.tuple #[]) ∧ Holds w' g n cap d (swapR σ a b k) ∧ Only g w w' := by
  subst hA; subst hB; subst hK
  exact swapRange_any d H hab hb hn

set_option maxRecDepth 100000 in
set_option maxHeartbeats 4000000 in
theorem rotate_at (d : Nat → ByteArray) {w : World} {g n cap a m b : Nat} {σ : Nat → Nat} {A M B : Int} (hA : A = a) (hM : M = m) (hB : B = b) (H : Holds w g n cap d σ) (ham : a < m) (hmb : m < b) (hb : b ≤ n) (hn : n ≤ 1000000) :
    Calls Try.prog 165 #[.slice (some ⟨g, 0, none⟩) n cap, .int .i64 A, .int .i64 M, .int .i64 B, .func (.func 66) #[] #[]] w fun e w' => e = .returned (.tuple #[]) ∧ Holds w' g n cap d (rotF σ a m b) ∧ Only g w w' := by
  subst hA; subst hM; subst hB
  have HH := Lib.hid H
  clear H
  go_enter Try.func165, Try.ntmps165
  go_wp2_with fail
  go_loopw [10, 11] (fun i j wr => ∃ x y : Nat, 1 ≤ x ∧ x ≤ m - a ∧ 1 ≤ y ∧ y ≤ b - m ∧ i = .int .i64 x ∧ j = .int .i64 y ∧ Hid (∃ τ, Holds wr g n cap d τ ∧ rotF τ (m - x) m (m + y) = rotF σ a m b ∧ Only g w wr)) (fun i j _ => (intOf i).toNat + (intOf j).toNat)
  case atStart => exact ⟨m - a, b - m, by omega, by omega, by omega, by omega, by congr 1; omega, by congr 1; omega, σ, HH.out, by rw [show m - (m - a) = a by omega, show m + (b - m) = b by omega], Only.refl _ _⟩
  case round =>
    obtain ⟨x, y, hx1, hx2, hy1, hy2, rfl, rfl, HK⟩ := hrel
    obtain ⟨τ, hh, he, ho⟩ := HK.out
    have HH1 := Lib.hid hh
    have HE1 := Lib.hid he
    have HO1 := Lib.hid ho
    clear hh he ho HK
    rcases Nat.lt_trichotomy x y with hlt | heq | hgt
    · have hne : ((x : Int) != (y : Int)) = true := by rw [bne_iff_ne]; omega
      go_wp2_with (go_at_call 188; refine (swapRange_at d (a := m - x) (b := m + y - x) (k := x) (by omega) (by omega) (by omega) HH1.out (by omega) (by omega) hn).mono ?_; rintro e w1 ⟨rfl, hh1, ho1⟩; have HH2 := Lib.hid hh1; have HO2 := Lib.hid ho1; clear hh1 ho1)
      go_roundw
      case rel => exact ⟨x, y - x, by omega, by omega, by omega, by omega, rfl, by congr 1; omega, _, HH2.out, by rw [rotF_right _ _ _ _ (by omega) hlt]; exact HE1.out, HO1.out.trans HO2.out⟩
      case measure => simp [intOf]; omega
    · subst heq
      have hne : ((x : Int) != (x : Int)) = false := by simp
      go_wp2_with (go_at_call 188; refine (swapRange_at d (a := m - x) (b := m) (k := x) (by omega) (by omega) (by omega) HH1.out (by omega) (by omega) hn).mono ?_; rintro e w1 ⟨rfl, hh1, ho1⟩; have HH2 := Lib.hid hh1; have HO2 := Lib.hid ho1; clear hh1 ho1)
      go_end0
      refine ⟨rfl, ?_, HO1.out.trans HO2.out⟩
      rw [← HE1.out, ← rotF_even _ _ _ (by omega)]
      exact HH2.out
    · have hne : ((x : Int) != (y : Int)) = true := by rw [bne_iff_ne]; omega
      go_wp2_with (go_at_call 188; refine (swapRange_at d (a := m - x) (b := m) (k := y) (by omega) (by omega) (by omega) HH1.out (by omega) (by omega) hn).mono ?_; rintro e w1 ⟨rfl, hh1, ho1⟩; have HH2 := Lib.hid hh1; have HO2 := Lib.hid ho1; clear hh1 ho1)
      go_roundw
      case rel => exact ⟨x - y, y, by omega, by omega, by omega, by omega, by congr 1; omega, rfl, _, HH2.out, by rw [rotF_left _ _ _ _ (by omega) hgt]; exact HE1.out, HO1.out.trans HO2.out⟩
      case measure => simp [intOf]; omega
end Go.Proofs.Ytkabmmpccfeffaa
