/- The order of strings is an order; order.Sort: by contract. -/
import Derived.Test.YtkabmmpccfeffaaSortS
namespace Go.Proofs.Ytkabmmpccfeffaa
open Go.RowKit
set_option linter.unusedVariables false
set_option linter.unusedSimpArgs false

theorem cmpz_neg (a b : ByteArray) : ∀ (n : Nat) (i : Int), cmpz b a n i = - cmpz a b n i
  | 0, i => by simp [cmpz]
  | n + 1, i => by
    have ih := cmpz_neg a b n (i + 1)
    simp only [cmpz]
    split <;> split <;> first | rfl | omega | (split <;> first | omega | rfl | exact ih)
theorem cmp_neg (a b : ByteArray) : cmp b a = - cmp a b := by
  unfold cmp
  rw [cmpz_neg, Nat.max_comm]
theorem cmpz_lt (a b : ByteArray) : ∀ (n : Nat) (i : Int), cmpz a b n i < 0 → ∃ k : Nat, (∀ j : Nat, j < k → bt a (i + j) = bt b (i + j)) ∧ bt a (i + k) < bt b (i + k)
  | 0, i => fun h => by simp [cmpz] at h
  | n + 1, i => fun h => by
    simp only [cmpz] at h
    split at h
    · next h1 => exact ⟨0, fun j hj => by omega, by simpa using h1⟩
    · next h1 =>
      split at h
      · omega
      · next h2 =>
        obtain ⟨k, hk, hl⟩ := cmpz_lt a b n (i + 1) h
        refine ⟨k + 1, fun j hj => ?_, ?_⟩
        · rcases j with _ | j
          · simp; omega
          · have := hk j (by omega)
            rw [show (i + ((j + 1 : Nat) : Int)) = i + 1 + j by omega]; exact this
        · rw [show (i + ((k + 1 : Nat) : Int)) = i + 1 + k by omega]; exact hl
theorem cmpz_eq (a b : ByteArray) : ∀ (n : Nat) (i : Int), cmpz a b n i = 0 → ∀ j : Nat, j < n → bt a (i + j) = bt b (i + j)
  | 0, i => fun _ j hj => by omega
  | n + 1, i => fun h j hj => by
    simp only [cmpz] at h
    split at h
    · omega
    · split at h
      · omega
      · rcases j with _ | j
        · simp; omega
        · have := cmpz_eq a b n (i + 1) h j (by omega)
          rw [show (i + ((j + 1 : Nat) : Int)) = i + 1 + j by omega]; exact this
theorem cmpz_le (a b : ByteArray) : ∀ (n : Nat) (i : Int) (k : Nat), k < n → (∀ j : Nat, j < k → bt a (i + j) = bt b (i + j)) → bt a (i + k) < bt b (i + k) → cmpz a b n i < 0
  | 0, i, k => fun h => by omega
  | n + 1, i, k => fun hk h1 h2 => by
    rcases k with _ | k
    · simp at h2
      simp [cmpz, h2]
    · have h0 := h1 0 (by omega)
      simp at h0
      rw [cmpz_on _ _ _ _ (by omega) (by omega)]
      refine cmpz_le a b n (i + 1) k (by omega) (fun j hj => ?_) ?_
      · have := h1 (j + 1) (by omega)
        rw [show (i + ((j + 1 : Nat) : Int)) = i + 1 + j by omega] at this; exact this
      · rw [show (i + ((k + 1 : Nat) : Int)) = i + 1 + k by omega] at h2; exact h2
theorem cmpz_same (a b : ByteArray) : ∀ (n : Nat) (i : Int), (∀ j : Nat, bt a (i + j) = bt b (i + j)) → cmpz a b n i = 0
  | 0, i => fun _ => rfl
  | n + 1, i => fun h => by
    have h0 := h 0
    simp at h0
    rw [cmpz_on _ _ _ _ (by omega) (by omega)]
    refine cmpz_same a b n (i + 1) fun j => ?_
    have := h (j + 1)
    rw [show (i + ((j + 1 : Nat) : Int)) = i + 1 + j by omega] at this; exact this

/-- a comes before b at place k. -/
def Lts (a b : ByteArray) : Prop := ∃ k : Nat, (∀ j : Nat, j < k → bt a j = bt b j) ∧ bt a k < bt b k
def Eqs (a b : ByteArray) : Prop := ∀ j : Nat, bt a j = bt b j
theorem cmp_lts (a b : ByteArray) : cmp a b < 0 ↔ Lts a b := by
  constructor
  · intro h
    obtain ⟨k, h1, h2⟩ := cmpz_lt a b _ 0 h
    exact ⟨k, fun j hj => by simpa using h1 j hj, by simpa using h2⟩
  · rintro ⟨k, h1, h2⟩
    refine cmpz_le a b _ 0 k ?_ (fun j hj => by simpa using h1 j hj) (by simpa using h2)
    refine Classical.byContradiction fun hk => ?_
    have e1 := bt_out a k (by omega)
    have e2 := bt_out b k (by omega)
    omega
theorem cmp_eqs (a b : ByteArray) : cmp a b = 0 ↔ Eqs a b := by
  constructor
  · intro h j
    by_cases hj : j < max a.size b.size
    · simpa using cmpz_eq a b _ 0 h j hj
    · rw [bt_out a j (by omega), bt_out b j (by omega)]
  · intro h
    exact cmpz_same a b _ 0 fun j => by simpa using h j
theorem Lts.trans {a b c : ByteArray} (h1 : Lts a b) (h2 : Lts b c) : Lts a c := by
  obtain ⟨k, k1, k2⟩ := h1
  obtain ⟨l, l1, l2⟩ := h2
  rcases Nat.lt_trichotomy k l with h | h | h
  · exact ⟨k, fun j hj => (k1 j hj).trans (l1 j (by omega)), by rw [← l1 k h]; exact k2⟩
  · subst h
    exact ⟨k, fun j hj => (k1 j hj).trans (l1 j hj), by omega⟩
  · exact ⟨l, fun j hj => (k1 j (by omega)).trans (l1 j hj), by rw [k1 l h]; exact l2⟩
theorem Lts.eq {a b c : ByteArray} (h1 : Lts a b) (h2 : Eqs b c) : Lts a c := by
  obtain ⟨k, k1, k2⟩ := h1
  exact ⟨k, fun j hj => (k1 j hj).trans (h2 j), by rw [← h2 k]; exact k2⟩
theorem Eqs.lt {a b c : ByteArray} (h1 : Eqs a b) (h2 : Lts b c) : Lts a c := by
  obtain ⟨k, k1, k2⟩ := h2
  exact ⟨k, fun j hj => (h1 j).trans (k1 j hj), by rw [h1 k]; exact k2⟩

theorem prec_ord (d : Nat → ByteArray) : Ord (Prec d) where
  tr := by
    intro a b c h1 h2
    rcases h1 with h1 | ⟨h1, l1⟩ <;> rcases h2 with h2 | ⟨h2, l2⟩
    · exact .inl ((cmp_lts _ _).2 (((cmp_lts _ _).1 h1).trans ((cmp_lts _ _).1 h2)))
    · exact .inl ((cmp_lts _ _).2 (((cmp_lts _ _).1 h1).eq ((cmp_eqs _ _).1 h2)))
    · exact .inl ((cmp_lts _ _).2 (((cmp_eqs _ _).1 h1).lt ((cmp_lts _ _).1 h2)))
    · exact .inr ⟨(cmp_eqs _ _).2 fun j => ((cmp_eqs _ _).1 h1 j).trans ((cmp_eqs _ _).1 h2 j), by omega⟩
  irr := by
    intro a h
    have := cmp_neg (d a) (d a)
    rcases h with h | ⟨_, h⟩
    · omega
    · omega
  tot := by
    intro a b hne h
    have := cmp_neg (d a) (d b)
    unfold Prec at h ⊢
    rcases Int.lt_trichotomy (cmp (d a) (d b)) 0 with h1 | h1 | h1
    · exact absurd (.inl h1) h
    · refine .inr ⟨by omega, ?_⟩
      rcases Nat.lt_or_gt_of_ne hne with h2 | h2
      · exact absurd (.inr ⟨h1, h2⟩) h
      · exact h2
    · exact .inl (by omega)
end Go.Proofs.Ytkabmmpccfeffaa
