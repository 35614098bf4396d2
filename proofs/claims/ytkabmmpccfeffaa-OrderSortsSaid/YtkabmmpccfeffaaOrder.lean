/- package order, by contracts: at, Compare. -/
import Derived.Test.YtkabmmpccfeffaaProg
import Derived.Test.YtkabmmpccfeffaaBase
import Derived.BigQuiet
import Derived.Deep.QuietTactic
namespace Go.Proofs.Ytkabmmpccfeffaa
open Go.RowKit
set_option linter.unusedVariables false
set_option linter.unusedSimpArgs false

/-- Which of two elements comes first, from place i on, n places. -/
def cmpz (a b : ByteArray) : Nat → Int → Int
  | 0, _ => 0
  | n + 1, i => if bt a i < bt b i then -1 else if bt b i < bt a i then 1 else cmpz a b n (i + 1)
def cmp (a b : ByteArray) : Int := cmpz a b (max a.size b.size) 0

theorem at_any (s : ByteArray) (i : Int) (w : World) (hs : s.size ≤ maxLen) (h0 : 0 ≤ i) :
    Calls Try.prog 95 #[.string s, .int .i64 i] w fun e w' => e = .returned (.int .u8 (bt s i)) ∧ w = w' := by
  unfold maxLen at hs
  by_cases h : i < (s.size : Int)
  · have hb := bt_at s i (by omega)
    obtain ⟨k, rfl⟩ := Int.eq_ofNat_of_zero_le h0
    go_enter Try.func95, Try.ntmps95
    go_wp2
    go_ret
    exact ⟨ret_int (by simpa using hb), rfl⟩
  · have hb := bt_out s i (by omega)
    go_enter Try.func95, Try.ntmps95
    go_wp2
    go_ret
    exact ⟨ret_int (by simp [hb]), rfl⟩

theorem cmpz_done (a b : ByteArray) (n : Nat) (i : Int) (h1 : bt a i < bt b i) : cmpz a b (n + 1) i = -1 := by simp [cmpz, h1]
theorem cmpz_up (a b : ByteArray) (n : Nat) (i : Int) (h1 : ¬ bt a i < bt b i) (h2 : bt b i < bt a i) : cmpz a b (n + 1) i = 1 := by simp [cmpz, h1, h2]
theorem cmpz_on (a b : ByteArray) (n : Nat) (i : Int) (h1 : ¬ bt a i < bt b i) (h2 : ¬ bt b i < bt a i) : cmpz a b (n + 1) i = cmpz a b n (i + 1) := by simp [cmpz, h1, h2]

theorem cmpz_zero (a b : ByteArray) (i : Int) : cmpz a b 0 i = 0 := rfl

set_option maxHeartbeats 1000000 in
theorem compare_any (a b : ByteArray) (w : World) (ha : a.size ≤ maxLen) (hb : b.size ≤ maxLen) :
    Calls Try.prog 56 #[.string a, .string b] w fun e w' => e = .returned (.int .i64 (cmp a b)) ∧ w = w' := by
  unfold maxLen at ha hb
  by_cases hab : a.size < b.size
  · obtain ⟨r, hr⟩ : ∃ r, r = cmp a b := ⟨_, rfl⟩
    have HR : Hid (cmpz a b b.size 0 = r) := by rw [hr, cmp, Nat.max_eq_right (by omega)]; rfl
    rw [← hr]
    clear hr
    go_enter Try.func56, Try.ntmps56
    go_wp2_with fail
    go_loop [13] (fun i => ∃ k : Nat, k ≤ b.size ∧ i = .int .i64 k ∧ Hid (cmpz a b (b.size - k) k = r)) (fun i => b.size - (intOf i).toNat)
    case atStart => exact ⟨0, Nat.zero_le _, rfl, HR⟩
    case round =>
      obtain ⟨k, hk, rfl, HK⟩ := hrel
      by_cases hlt : k < b.size
      · obtain ⟨n, hn⟩ : ∃ n, b.size - k = n + 1 := ⟨b.size - k - 1, by omega⟩
        have HK2 : Hid (cmpz a b (n + 1) k = r) := by rw [← hn]; exact HK
        have HN : Hid (b.size - (k + 1) = n) := by show _ = _; omega
        clear HK hn
        by_cases h1 : bt a k < bt b k
        · go_wp2_with (go_at_call 95; refine (at_any _ _ _ (by unfold maxLen; omega) (by omega)).mono ?_; rintro e w' ⟨rfl, rfl⟩)
          go_ret
          exact ⟨ret_int (by rw [← HK2.out, cmpz_done a b n k h1]), rfl⟩
        · by_cases h2 : bt b k < bt a k
          · go_wp2_with (go_at_call 95; refine (at_any _ _ _ (by unfold maxLen; omega) (by omega)).mono ?_; rintro e w' ⟨rfl, rfl⟩)
            go_ret
            exact ⟨ret_int (by rw [← HK2.out, cmpz_up a b n k (by omega) h2]), rfl⟩
          · go_wp2_with (go_at_call 95; refine (at_any _ _ _ (by unfold maxLen; omega) (by omega)).mono ?_; rintro e w' ⟨rfl, rfl⟩)
            go_round
            case rel => exact ⟨k + 1, by omega, by go_num, by rw [HN.out]; show cmpz a b n ((k + 1 : Nat) : Int) = r; rw [← HK2.out, cmpz_on a b n k (by omega) (by omega)]; rfl⟩
            case measure => simp [intOf]; omega
      · have HK2 : Hid (cmpz a b 0 k = r) := by rw [show 0 = b.size - k from by omega]; exact HK
        clear HK
        go_wp2
        go_ret
        exact ⟨ret_int HK2.out, rfl⟩
  · obtain ⟨r, hr⟩ : ∃ r, r = cmp a b := ⟨_, rfl⟩
    have HR : Hid (cmpz a b a.size 0 = r) := by rw [hr, cmp, Nat.max_eq_left (by omega)]; rfl
    rw [← hr]
    clear hr
    go_enter Try.func56, Try.ntmps56
    go_wp2_with fail
    go_loop [13] (fun i => ∃ k : Nat, k ≤ a.size ∧ i = .int .i64 k ∧ Hid (cmpz a b (a.size - k) k = r)) (fun i => a.size - (intOf i).toNat)
    case atStart => exact ⟨0, Nat.zero_le _, rfl, HR⟩
    case round =>
      obtain ⟨k, hk, rfl, HK⟩ := hrel
      by_cases hlt : k < a.size
      · obtain ⟨n, hn⟩ : ∃ n, a.size - k = n + 1 := ⟨a.size - k - 1, by omega⟩
        have HK2 : Hid (cmpz a b (n + 1) k = r) := by rw [← hn]; exact HK
        have HN : Hid (a.size - (k + 1) = n) := by show _ = _; omega
        clear HK hn
        by_cases h1 : bt a k < bt b k
        · go_wp2_with (go_at_call 95; refine (at_any _ _ _ (by unfold maxLen; omega) (by omega)).mono ?_; rintro e w' ⟨rfl, rfl⟩)
          go_ret
          exact ⟨ret_int (by rw [← HK2.out, cmpz_done a b n k h1]), rfl⟩
        · by_cases h2 : bt b k < bt a k
          · go_wp2_with (go_at_call 95; refine (at_any _ _ _ (by unfold maxLen; omega) (by omega)).mono ?_; rintro e w' ⟨rfl, rfl⟩)
            go_ret
            exact ⟨ret_int (by rw [← HK2.out, cmpz_up a b n k (by omega) h2]), rfl⟩
          · go_wp2_with (go_at_call 95; refine (at_any _ _ _ (by unfold maxLen; omega) (by omega)).mono ?_; rintro e w' ⟨rfl, rfl⟩)
            go_round
            case rel => exact ⟨k + 1, by omega, by go_num, by rw [HN.out]; show cmpz a b n ((k + 1 : Nat) : Int) = r; rw [← HK2.out, cmpz_on a b n k (by omega) (by omega)]; rfl⟩
            case measure => simp [intOf]; omega
      · have HK2 : Hid (cmpz a b 0 k = r) := by rw [show 0 = a.size - k from by omega]; exact HK
        clear HK
        go_wp2
        go_ret
        exact ⟨ret_int HK2.out, rfl⟩
end Go.Proofs.Ytkabmmpccfeffaa
