/- Layer 9 (event.Whole): by contract. -/
import Derived.Test.YtkabmmpccfeffaaVPush
namespace Go.Proofs.Ytkabmmpccfeffaa
open Go.RowKit
set_option linter.unusedVariables false
set_option linter.unusedSimpArgs false

/-- What holds of a Machine's state at place at_. -/
structure MInv (s : MS) : Prop where
  leaf0 : 0 ≤ s.leaf
  leaf1 : s.leaf ≤ 2305843009213693951
  came : (s.came.length : Int) ≤ s.at_
theorem stTake_length (l : List Int) : (stTake l).2.length = l.length := by
  cases l with
  | nil => rfl
  | cons x r => simp only [stTake]; split <;> simp
theorem stEnter_length (m : Nat) (n : Int) (l : List Int) : (stEnter m n l).2.length ≤ l.length + 1 := by
  cases l with
  | nil => simp only [stEnter]; split <;> simp
  | cons x r => simp only [stEnter]; split <;> (try split) <;> simp
theorem mBegin_facts (most : Nat) (lefts : List Int) (leaf at_ : Int) (h : Hd) (h0 : 0 ≤ leaf) (h1 : leaf ≤ 2305843009213693951) (h2 : 0 ≤ h.len) (h3 : h.len ≤ 2305843009213693951) :
    (mBegin most lefts leaf at_ h).2.1.length ≤ 2 ∧ (mBegin most lefts leaf at_ h).2.2.1.length ≤ lefts.length + 1 ∧ 0 ≤ (mBegin most lefts leaf at_ h).2.2.2 ∧ (mBegin most lefts leaf at_ h).2.2.2 ≤ 2305843009213693951 := by
  unfold mBegin
  split
  · exact ⟨by simp, by simp, h0, h1⟩
  · split
    · split
      · exact ⟨by simp, stEnter_length _ _ _, h0, h1⟩
      · exact ⟨by simp, by simp, h0, h1⟩
    · refine ⟨?_, by simp, h2, h3⟩
      split <;> simp
theorem mStep_facts (most : Nat) (s : MS) (b : Int) (h : MInv s) :
    (mStep most s b).2.1.length ≤ 2 ∧ (mStep most s b).2.2.lefts.length ≤ s.lefts.length + 1 ∧ (mStep most s b).2.2.at_ = s.at_ ∧ 0 ≤ (mStep most s b).2.2.leaf ∧ (mStep most s b).2.2.leaf ≤ 2305843009213693951 ∧ ((mStep most s b).2.2.came.length : Int) ≤ s.at_ + 1 := by
  obtain ⟨h0, h1, h2⟩ := h
  have hl := stTake_length s.lefts
  unfold mStep
  split
  · refine ⟨by unfold mByte; split <;> simp, by simp [hl], rfl, by simp only; omega, by simp only; omega, by simp only; omega⟩
  · split
    · split
      · have hh := headRes_len (strOfNums (s.came ++ [b]))
        have f := mBegin_facts most (stTake s.lefts).2 s.leaf s.at_ (headRes (strOfNums (s.came ++ [b]))).2.2 h0 h1 hh.1 hh.2
        exact ⟨f.1, by rw [hl] at f; exact f.2.1, rfl, f.2.2.1, f.2.2.2, by simp; omega⟩
      · split
        · exact ⟨by simp, by simp [hl], rfl, h0, h1, by simp; omega⟩
        · exact ⟨by simp, by simp, rfl, h0, h1, by simp only; omega⟩
    · exact ⟨by simp, by simp, rfl, h0, h1, by simp only; omega⟩
theorem mExits_length (at_ : Int) (l : List Int) : (mExits at_ l).1.length ≤ l.length := by
  induction l with
  | nil => simp [mExits]
  | cons x r ih => simp only [mExits]; split <;> simp <;> omega
theorem mPush_inv (most : Nat) (s : MS) (b : Int) (h : MInv s) (he : (mPush most s b).1 = 0) :
    MInv (mPush most s b).2.2 ∧ (mPush most s b).2.2.at_ = s.at_ + 1 ∧ (mPush most s b).2.1.length ≤ s.lefts.length + 3 := by
  have f := mStep_facts most s b h
  unfold mPush at he ⊢
  split
  · rename_i q; rw [if_pos q] at he; simp at he
  · rename_i q
    rw [if_neg q] at he
    split
    · rename_i q2
      split
      · have hx := mExits_length s.at_ (mStep most s b).2.2.lefts
        exact ⟨⟨f.2.2.2.1, f.2.2.2.2.1, f.2.2.2.2.2⟩, rfl, by simp; omega⟩
      · exact ⟨⟨f.2.2.2.1, f.2.2.2.2.1, f.2.2.2.2.2⟩, rfl, by simp only; omega⟩
    · rename_i q2; rw [if_neg q2] at he; exact absurd he q2
theorem IsMS.len {w : World} {B gm most : Nat} {s : MS} (h : IsMS w B gm most s) : s.lefts.length ≤ 64 := by
  obtain ⟨_, _, _, _, h⟩ := h
  obtain ⟨_, _, _, _, _, _, _, h1, h2, _⟩ := h.stk
  omega
theorem mpush_any {w : World} {B gm most : Nat} {s : MS} (h : IsMS w B gm most s) (hi : MInv s) (hB : B ≤ w.heap.size) (b : Int) (hat : s.at_ < 999999) :
    Calls Try.prog 72 #[.pointer (some ⟨gm, 0, none⟩), .int .u8 b] w (StepPost w B gm most (mPush most s b)) := by
  have hl := h.len
  have f := mStep_facts most s b hi
  obtain ⟨go, gh, vr, vm, h⟩ := h
  obtain ⟨lefts, leaf, came, begun, at_⟩ := s
  obtain ⟨h0, h1, h2⟩ := hi
  simp only at h h0 h1 h2 hat hl
  by_cases hd : mDone begun lefts leaf came = true
  · exact mpush_more h hB b hd
  · have hd : mDone begun lefts leaf came = false := by simpa using hd
    by_cases he : (mStep most ⟨lefts, leaf, came, begun, at_⟩ b).1 = 0
    · by_cases hx : (mStep most ⟨lefts, leaf, came, begun, at_⟩ b).2.2.leaf = 0 ∧ (mStep most ⟨lefts, leaf, came, begun, at_⟩ b).2.2.came = []
      · exact mpush_exit h hB b (by have := f.1; have := f.2.1; simp only at this; omega) h0 h1 (by omega) hd (by omega) hat he hx f.2.2.1
      · exact mpush_skip h hB b h0 h1 (by omega) hd (by omega) hat he hx f.2.2.1
    · exact mpush_err h hB b h0 h1 (by omega) hd he
end Go.Proofs.Ytkabmmpccfeffaa
