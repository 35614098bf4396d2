/- Layer 15: what stands behind plays no part: the plain law. -/
import Derived.Test.YtkabmmpccfeffaaVAwake
namespace Go.Proofs.Ytkabmmpccfeffaa
open Go.RowKit
set_option linter.unusedVariables false
set_option linter.unusedSimpArgs false
theorem mExits_at (at_ : Int) (l : List Int) : ∀ x ∈ (mExits at_ l).1, x.at_ = at_ := by
  induction l with
  | nil => intro x hx; simp [mExits] at hx
  | cons y r ih =>
    intro x hx
    simp only [mExits] at hx
    split at hx
    · rcases List.mem_cons.1 hx with rfl | h
      · rfl
      · exact ih x h
    · simp at hx
theorem mByte_at (leaf at_ b : Int) : ∀ x ∈ mByte leaf at_ b, x.at_ = at_ := by
  intro x hx
  unfold mByte at hx
  rcases List.mem_cons.1 hx with rfl | h
  · rfl
  · split at h
    · rcases List.mem_singleton.1 h with rfl; rfl
    · simp at h
theorem mBegin_at (most : Nat) (lefts : List Int) (leaf at_ : Int) (h : Hd) : ∀ x ∈ (mBegin most lefts leaf at_ h).2.1, x.at_ = at_ := by
  intro x hx
  unfold mBegin at hx
  split at hx
  · simp at hx
  · split at hx
    · split at hx
      · rcases List.mem_singleton.1 hx with rfl; rfl
      · simp at hx
    · rcases List.mem_cons.1 hx with rfl | h2
      · rfl
      · split at h2
        · rcases List.mem_singleton.1 h2 with rfl; rfl
        · simp at h2
theorem mStep_at (most : Nat) (s : MS) (b : Int) : ∀ x ∈ (mStep most s b).2.1, x.at_ = s.at_ := by
  intro x hx
  unfold mStep at hx
  split at hx
  · exact mByte_at _ _ _ x hx
  · split at hx
    · split at hx
      · exact mBegin_at _ _ _ _ _ x hx
      · split at hx <;> simp at hx
    · simp at hx
theorem mPush_at (most : Nat) (s : MS) (b : Int) : ∀ x ∈ (mPush most s b).2.1, x.at_ = s.at_ := by
  intro x hx
  unfold mPush at hx
  split at hx
  · simp at hx
  · split at hx
    · split at hx
      · rcases List.mem_append.1 hx with h | h
        · exact mStep_at _ _ _ x h
        · exact mExits_at _ _ x h
      · exact mStep_at _ _ _ x hx
    · simp at hx
/-- Where a run's events and its end lie. -/
theorem mGo_at (most : Nat) : ∀ (bs : List Int) (s : MS) (out : List Ev) (i : Int), MInv s → s.at_ = i →
    (∃ rest, (mGo most bs s out i).1 = out ++ rest ∧ ∀ x ∈ rest, i ≤ x.at_ ∧ x.at_ < i + bs.length) ∧ i ≤ (mGo most bs s out i).2.2 ∧ (mGo most bs s out i).2.2 ≤ i + bs.length ∧
      ((mGo most bs s out i).2.2 = i + bs.length → (mGo most bs s out i).2.1 = 0 ∨ (mGo most bs s out i).2.1 = 2) ∧ ((mGo most bs s out i).2.1 = 0 → (mGo most bs s out i).2.2 = i + bs.length) := by
  intro bs
  induction bs with
  | nil =>
    intro s out i hi hs
    simp only [mGo]
    exact ⟨⟨[], by simp, by simp⟩, Int.le_refl _, by simp, fun _ => by split <;> simp, fun _ => by simp⟩
  | cons b bs ih =>
    intro s out i hi hs
    simp only [mGo]
    split
    · rename_i he
      have h := mPush_inv most s b hi he
      have ha := mPush_at most s b
      obtain ⟨⟨rest, h1, h2⟩, h3, h4, h5, h6⟩ := ih (mPush most s b).2.2 (out ++ (mPush most s b).2.1) (i + 1) h.1 (by rw [h.2.1, hs])
      simp only [List.length_cons]
      refine ⟨⟨(mPush most s b).2.1 ++ rest, by rw [h1, List.append_assoc], ?_⟩, by omega, by omega, fun e => h5 (by omega), fun e => by have := h6 e; omega⟩
      intro x hx
      rcases List.mem_append.1 hx with q | q
      · have := ha x q; omega
      · have := h2 x q; omega
    · rename_i he
      simp only [List.length_cons]
      exact ⟨⟨[], by simp, by simp⟩, Int.le_refl _, by omega, fun e => by omega, fun e => absurd e he⟩
/-- A run goes on from where a beginning of the bytes leaves it, or ends where that one ended. -/
theorem mGo_front (most : Nat) (qs : List Int) : ∀ (ps : List Int) (s : MS) (out : List Ev) (i : Int), MInv s → s.at_ = i →
    ((mGo most ps s out i).2.2 < i + ps.length ∧ mGo most (ps ++ qs) s out i = mGo most ps s out i) ∨
    ((mGo most ps s out i).2.2 = i + ps.length ∧ ∃ rest, (mGo most (ps ++ qs) s out i).1 = (mGo most ps s out i).1 ++ rest ∧ (∀ x ∈ rest, i + ps.length ≤ x.at_) ∧
      ((mGo most (ps ++ qs) s out i).2.1 = 0 ∨ i + ps.length ≤ (mGo most (ps ++ qs) s out i).2.2)) := by
  intro ps
  induction ps with
  | nil =>
    intro s out i hi hs
    right
    obtain ⟨⟨rest, h1, h2⟩, h3, _⟩ := mGo_at most qs s out i hi hs
    refine ⟨by simp [mGo], rest, by simpa [mGo] using h1, fun x hx => by have := h2 x hx; simp; omega, .inr (by simpa using h3)⟩
  | cons b ps ih =>
    intro s out i hi hs
    simp only [List.cons_append, mGo]
    by_cases he : (mPush most s b).1 = 0
    · simp only [if_pos he]
      have h := mPush_inv most s b hi he
      rcases ih (mPush most s b).2.2 (out ++ (mPush most s b).2.1) (i + 1) h.1 (by rw [h.2.1, hs]) with ⟨h1, h2⟩ | ⟨h1, rest, h2, h3, h4⟩
      · left; exact ⟨by simp only [List.length_cons]; omega, h2⟩
      · right
        refine ⟨by simp only [List.length_cons]; omega, rest, h2, fun x hx => by have := h3 x hx; simp only [List.length_cons]; omega, ?_⟩
        rcases h4 with h4 | h4
        · exact .inl h4
        · exact .inr (by simp only [List.length_cons]; omega)
    · simp only [if_neg he]
      left
      exact ⟨by simp only [List.length_cons]; omega, trivial⟩
theorem vGo_append : ∀ (l r : List Ev) (st : CSt), (∃ a, vGo st l = some a ∧ vGo st (l ++ r) = some a) ∨ (vGo st l = none ∧ ∃ st', vGo st (l ++ r) = vGo st' r) := by
  intro l
  induction l with
  | nil => intro r st; exact .inr ⟨rfl, st, rfl⟩
  | cons x l ih =>
    intro r st
    simp only [List.cons_append, vGo]
    cases vLook st x with
    | none => exact .inl ⟨_, rfl, rfl⟩
    | some st' => exact ih r st'
theorem vGo_mem : ∀ (l : List Ev) (st : CSt) (a : Int), vGo st l = some a → ∃ x ∈ l, x.at_ = a := by
  intro l
  induction l with
  | nil => intro st a h; cases h
  | cons x l ih =>
    intro st a h
    simp only [vGo] at h
    split at h
    · injection h with h; exact ⟨x, by simp, h⟩
    · obtain ⟨y, hy, ha⟩ := ih _ a h
      exact ⟨y, by simp [hy], ha⟩
theorem vFront (b : ByteArray) (n : Nat) (depth : Int) (hn : n ≤ b.size) :
    ((vWhole (b.extract 0 n) depth).2 < n → (vWhole (b.extract 0 n) depth).1 = (vWhole b depth).1 ∧ (vWhole (b.extract 0 n) depth).2 = (vWhole b depth).2) ∧
    ((n : Int) ≤ (vWhole (b.extract 0 n) depth).2 → (vWhole (b.extract 0 n) depth).2 = n ∧ ((vWhole (b.extract 0 n) depth).1 = 0 ∨ (vWhole (b.extract 0 n) depth).1 = 2) ∧ ((vWhole b depth).1 = 0 ∨ (n : Int) ≤ (vWhole b depth).2)) := by
  have hp : bytesOf (b.extract 0 n) = (bytesOf b).take n := by rw [bytesOf_extract]; simp
  have hlen : ((bytesOf b).take n).length = n := by rw [List.length_take, bytesOf_length]; omega
  have hsp : bytesOf b = (bytesOf b).take n ++ (bytesOf b).drop n := (List.take_append_drop n _).symm
  unfold vWhole mWhole
  rw [hp]
  generalize hm : (min (max depth 0) 64).toNat = most
  have hf := mGo_front most ((bytesOf b).drop n) ((bytesOf b).take n) MS.new [] 0 MInv.new rfl
  have ha := mGo_at most ((bytesOf b).take n) MS.new [] 0 MInv.new rfl
  rw [← hsp, hlen] at hf
  rw [hlen] at ha
  generalize mGo most (bytesOf b) MS.new [] 0 = R2 at hf ⊢
  generalize mGo most ((bytesOf b).take n) MS.new [] 0 = R1 at hf ha ⊢
  obtain ⟨l1, e1, a1⟩ := R1
  obtain ⟨l2, e2, a2⟩ := R2
  simp only [List.nil_append, Int.zero_add] at hf ha ⊢
  obtain ⟨⟨rest0, h0, hr0⟩, h3, h4, h5, h6⟩ := ha
  subst h0
  rcases hf with ⟨g1, g2⟩ | ⟨g1, rest, g2, g3, g4⟩
  · injection g2 with q1 q2
    injection q2 with q2 q3
    subst q1 q2 q3
    cases hv : vGo .any l2 with
    | some a =>
      obtain ⟨x, hx, rfl⟩ := vGo_mem _ _ _ hv
      have := hr0 x hx
      exact ⟨fun _ => ⟨rfl, rfl⟩, fun h => by simp only at h; omega⟩
    | none => exact ⟨fun _ => ⟨rfl, rfl⟩, fun h => by simp only at h; omega⟩
  · subst g2
    rcases vGo_append l1 rest .any with ⟨a, v1, v2⟩ | ⟨v1, st', v2⟩
    · rw [v1, v2]
      obtain ⟨x, hx, rfl⟩ := vGo_mem _ _ _ v1
      have := hr0 x hx
      exact ⟨fun _ => ⟨rfl, rfl⟩, fun h => by simp only at h; omega⟩
    · rw [v1, v2]
      refine ⟨fun h => by simp only at h; omega, fun _ => ⟨g1, h5 g1, ?_⟩⟩
      cases hv : vGo st' rest with
      | none => exact g4
      | some a =>
        obtain ⟨x, hx, rfl⟩ := vGo_mem _ _ _ hv
        exact .inr (g3 x hx)
end Go.Proofs.Ytkabmmpccfeffaa
