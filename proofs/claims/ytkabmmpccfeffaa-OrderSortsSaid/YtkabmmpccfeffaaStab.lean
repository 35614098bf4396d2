/- Plain lemmas on sorting places by swaps: no program. -/
import Derived.Test.YtkabmmpccfeffaaOrder
namespace Go.Proofs.Ytkabmmpccfeffaa
set_option linter.unusedVariables false

/-- On [a, b) the one is a rearrangement of the other; elsewhere they are one. -/
structure Img (σ τ : Nat → Nat) (a b : Nat) : Prop where
  into : ∀ k, a ≤ k → k < b → ∃ l, a ≤ l ∧ l < b ∧ τ k = σ l
  onto : ∀ k, a ≤ k → k < b → ∃ l, a ≤ l ∧ l < b ∧ σ k = τ l
  out : ∀ k, (k < a ∨ b ≤ k) → τ k = σ k
theorem Img.refl (σ : Nat → Nat) (a b : Nat) : Img σ σ a b := ⟨fun k h1 h2 => ⟨k, h1, h2, rfl⟩, fun k h1 h2 => ⟨k, h1, h2, rfl⟩, fun _ _ => rfl⟩
theorem Img.trans {σ τ υ : Nat → Nat} {a b : Nat} (h : Img σ τ a b) (k : Img τ υ a b) : Img σ υ a b := by
  refine ⟨fun x h1 h2 => ?_, fun x h1 h2 => ?_, fun x hx => (k.out x hx).trans (h.out x hx)⟩
  · obtain ⟨l, l1, l2, e⟩ := k.into x h1 h2
    obtain ⟨m, m1, m2, e2⟩ := h.into l l1 l2
    exact ⟨m, m1, m2, e.trans e2⟩
  · obtain ⟨l, l1, l2, e⟩ := h.onto x h1 h2
    obtain ⟨m, m1, m2, e2⟩ := k.onto l l1 l2
    exact ⟨m, m1, m2, e.trans e2⟩
theorem Img.wide {σ τ : Nat → Nat} {a b a' b' : Nat} (h : Img σ τ a b) (ha : a' ≤ a) (hb : b ≤ b') : Img σ τ a' b' := by
  refine ⟨fun x h1 h2 => ?_, fun x h1 h2 => ?_, fun x hx => h.out x (by omega)⟩
  · by_cases c : a ≤ x ∧ x < b
    · obtain ⟨l, l1, l2, e⟩ := h.into x c.1 c.2
      exact ⟨l, by omega, by omega, e⟩
    · exact ⟨x, h1, h2, h.out x (by omega)⟩
  · by_cases c : a ≤ x ∧ x < b
    · obtain ⟨l, l1, l2, e⟩ := h.onto x c.1 c.2
      exact ⟨l, by omega, by omega, e⟩
    · exact ⟨x, h1, h2, (h.out x (by omega)).symm⟩

def swp (σ : Nat → Nat) (i j : Nat) : Nat → Nat := fun k => if k = i then σ j else if k = j then σ i else σ k
theorem Img.swp (σ : Nat → Nat) {a b i j : Nat} (h1 : a ≤ i) (h2 : i < b) (h3 : a ≤ j) (h4 : j < b) : Img σ (swp σ i j) a b := by
  have key : ∀ k, a ≤ k → k < b → ∃ l, a ≤ l ∧ l < b ∧ Ytkabmmpccfeffaa.swp σ i j k = σ l := by
    intro k k1 k2
    unfold Ytkabmmpccfeffaa.swp
    by_cases e1 : k = i
    · exact ⟨j, h3, h4, by rw [if_pos e1]⟩
    · by_cases e2 : k = j
      · exact ⟨i, h1, h2, by rw [if_neg e1, if_pos e2]⟩
      · exact ⟨k, k1, k2, by rw [if_neg e1, if_neg e2]⟩
  refine ⟨key, fun k k1 k2 => ?_, fun k hk => ?_⟩
  · unfold Ytkabmmpccfeffaa.swp
    by_cases e1 : k = i
    · refine ⟨j, h3, h4, ?_⟩
      by_cases e : j = i
      · rw [if_pos e, e1, e]
      · rw [if_neg e, if_pos rfl, e1]
    · by_cases e2 : k = j
      · exact ⟨i, h1, h2, by rw [if_pos rfl, e2]⟩
      · exact ⟨k, k1, k2, by rw [if_neg e1, if_neg e2]⟩
  · unfold Ytkabmmpccfeffaa.swp
    rw [if_neg (by omega), if_neg (by omega)]

/-- A strict order in which any two that differ are ordered. -/
structure Ord (lt : Nat → Nat → Prop) : Prop where
  tr : ∀ {a b c}, lt a b → lt b c → lt a c
  irr : ∀ a, ¬ lt a a
  tot : ∀ {a b}, a ≠ b → ¬ lt a b → lt b a
def Srt (lt : Nat → Nat → Prop) (σ : Nat → Nat) (a b : Nat) : Prop := ∀ k l, a ≤ k → k < l → l < b → lt (σ k) (σ l)

/-- Two rearrangements of the same that are sorted are one. -/
theorem srt_unique {lt : Nat → Nat → Prop} (O : Ord lt) {σ τ : Nat → Nat} {n : Nat} (hσ : Srt lt σ 0 n) (hτ : Srt lt τ 0 n) (h1 : ∀ k, k < n → ∃ l, l < n ∧ τ k = σ l) (h2 : ∀ k, k < n → ∃ l, l < n ∧ σ k = τ l) :
    ∀ k, k < n → σ k = τ k := by
  intro k
  induction k using Nat.strongRecOn with
  | ind k ih =>
    intro hk
    by_cases e : σ k = τ k
    · exact e
    exfalso
    have key : ∀ {ρ υ : Nat → Nat}, Srt lt ρ 0 n → Srt lt υ 0 n → (∀ k, k < n → ∃ l, l < n ∧ ρ k = υ l) → (∀ m, m < k → ρ m = υ m) → ρ k ≠ υ k → lt (υ k) (ρ k) := by
      intro ρ υ hρ hυ h he hne
      obtain ⟨l, hl, el⟩ := h k hk
      rcases Nat.lt_trichotomy l k with h3 | h3 | h3
      · have := hρ l k (Nat.zero_le _) h3 hk
        rw [he l h3, el] at this
        exact absurd this (O.irr _)
      · subst h3; exact absurd el hne
      · rw [el]; exact hυ k l (Nat.zero_le _) h3 hl
    have a1 := key hσ hτ h2 (fun m hm => ih m hm (by omega)) e
    have a2 := key hτ hσ h1 (fun m hm => (ih m hm (by omega)).symm) (fun h => e h.symm)
    exact O.irr _ (O.tr a1 a2)

/-- An insertion under way: what is inserted stands at j. -/
structure Ins (lt : Nat → Nat → Prop) (σ₀ σ : Nat → Nat) (a i j : Nat) : Prop where
  aj : a ≤ j
  ji : j ≤ i
  img : Img σ₀ σ a (i + 1)
  here : σ j = σ₀ i
  srt : ∀ k l, a ≤ k → k < l → l ≤ i → k ≠ j → l ≠ j → lt (σ k) (σ l)
  up : ∀ l, j < l → l ≤ i → lt (σ j) (σ l)
  tag : ∀ k, a ≤ k → k ≤ i → k ≠ j → σ k < σ₀ i
theorem Ins.start {lt : Nat → Nat → Prop} {σ : Nat → Nat} {a i : Nat} (ha : a ≤ i) (hs : Srt lt σ a i) (ht : ∀ k, a ≤ k → k < i → σ k < σ i) : Ins lt σ σ a i i :=
  ⟨ha, Nat.le_refl _, Img.refl _ _ _, rfl, fun k l h1 h2 h3 _ h5 => hs k l h1 h2 (by omega), fun l h1 h2 => by omega, fun k h1 h2 h3 => ht k h1 (by omega)⟩
theorem Ins.step {lt : Nat → Nat → Prop} {σ₀ σ : Nat → Nat} {a i j : Nat} (h : Ins lt σ₀ σ a i (j + 1)) (hj : a ≤ j) (hl : lt (σ (j + 1)) (σ j)) : Ins lt σ₀ (swp σ (j + 1) j) a i j := by
  have ji := h.ji
  have e0 : swp σ (j + 1) j j = σ (j + 1) := by unfold swp; rw [if_neg (by omega), if_pos rfl]
  have e1 : swp σ (j + 1) j (j + 1) = σ j := by unfold swp; rw [if_pos rfl]
  have e2 : ∀ k, k ≠ j → k ≠ j + 1 → swp σ (j + 1) j k = σ k := fun k h1 h2 => by unfold swp; rw [if_neg h2, if_neg h1]
  refine ⟨hj, by omega, h.img.trans (Img.swp σ (by omega) (by omega) (by omega) (by omega)), by rw [e0, h.here], fun k l h1 h2 h3 h4 h5 => ?_, fun l h1 h2 => ?_, fun k h1 h2 h3 => ?_⟩
  · by_cases c1 : l = j + 1
    · subst c1
      rw [e1, e2 k h4 (by omega)]
      exact h.srt k j h1 (by omega) (by omega) (by omega) (by omega)
    · by_cases c2 : k = j + 1
      · subst c2
        rw [e1, e2 l h5 c1]
        exact h.srt j l hj (by omega) h3 (by omega) (by omega)
      · rw [e2 k h4 c2, e2 l h5 c1]
        exact h.srt k l h1 h2 h3 c2 c1
  · rw [e0]
    by_cases c : l = j + 1
    · subst c; rw [e1]; exact hl
    · rw [e2 l (by omega) c]; exact h.up l (by omega) h2
  · by_cases c : k = j + 1
    · subst c; rw [e1]; exact h.tag j hj (by omega) (by omega)
    · rw [e2 k h3 c]; exact h.tag k h1 h2 c
theorem Ins.done {lt : Nat → Nat → Prop} (O : Ord lt) {σ₀ σ : Nat → Nat} {a i j : Nat} (h : Ins lt σ₀ σ a i j) (hd : a < j → ¬ lt (σ j) (σ (j - 1))) : Srt lt σ a (i + 1) := by
  have ji := h.ji
  have aj := h.aj
  intro k l h1 h2 h3
  by_cases c1 : k = j
  · subst c1; exact h.up l h2 (by omega)
  · by_cases c2 : l = j
    · subst c2
      have hx : lt (σ (l - 1)) (σ l) := O.tot (by rw [h.here]; exact Nat.ne_of_gt (h.tag (l - 1) (by omega) (by omega) (by omega))) (hd (by omega))
      by_cases c3 : k = l - 1
      · rw [c3]; exact hx
      · exact O.tr (h.srt k (l - 1) h1 (by omega) (by omega) c1 (by omega)) hx
    · exact h.srt k l h1 h2 (by omega) c1 c2

/-- k places from a on and from b on, exchanged. -/
def swapR (σ : Nat → Nat) (a b k : Nat) : Nat → Nat := fun x => if a ≤ x ∧ x < a + k then σ (x - a + b) else if b ≤ x ∧ x < b + k then σ (x - b + a) else σ x
theorem swapR_zero (σ : Nat → Nat) (a b : Nat) : swapR σ a b 0 = σ := by
  funext x; unfold swapR; rw [if_neg (by omega), if_neg (by omega)]
theorem swapR_succ (σ : Nat → Nat) (a b k : Nat) (h : a + k < b) : swapR σ a b (k + 1) = swp (swapR σ a b k) (a + k) (b + k) := by
  funext x
  simp only [swapR, swp]
  (repeat' split) <;> first | rfl | (congr 1; omega) | (exfalso; omega)

/-- [a, m) and [m, b), the other way round. -/
def rotF (σ : Nat → Nat) (a m b : Nat) : Nat → Nat := fun x => if a ≤ x ∧ x < a + (b - m) then σ (x - a + m) else if a + (b - m) ≤ x ∧ x < b then σ (x - (b - m)) else σ x
theorem rotF_even (σ : Nat → Nat) (m i : Nat) (h : i ≤ m) : swapR σ (m - i) m i = rotF σ (m - i) m (m + i) := by
  funext x
  simp only [swapR, rotF]
  (repeat' split) <;> first | rfl | (congr 1; omega) | (exfalso; omega)
theorem rotF_left (σ : Nat → Nat) (m i j : Nat) (h : i ≤ m) (hj : j < i) : rotF (swapR σ (m - i) m j) (m - (i - j)) m (m + j) = rotF σ (m - i) m (m + j) := by
  funext x
  simp only [swapR, rotF]
  (repeat' split) <;> first | rfl | (congr 1; omega) | (exfalso; omega)
theorem rotF_right (σ : Nat → Nat) (m i j : Nat) (h : i ≤ m) (hj : i < j) : rotF (swapR σ (m - i) (m + j - i) i) (m - i) m (m + (j - i)) = rotF σ (m - i) m (m + j) := by
  funext x
  simp only [swapR, rotF]
  (repeat' split) <;> first | rfl | (congr 1; omega) | (exfalso; omega)
theorem Img.rot (σ : Nat → Nat) {a m b : Nat} (h1 : a ≤ m) (h2 : m ≤ b) : Img σ (rotF σ a m b) a b := by
  refine ⟨fun k k1 k2 => ?_, fun k k1 k2 => ?_, fun k hk => ?_⟩
  · unfold rotF
    by_cases c : a ≤ k ∧ k < a + (b - m)
    · exact ⟨k - a + m, by omega, by omega, by rw [if_pos c]⟩
    · exact ⟨k - (b - m), by omega, by omega, by rw [if_neg c, if_pos (by omega)]⟩
  · unfold rotF
    by_cases c : k < m
    · exact ⟨k + (b - m), by omega, by omega, by rw [if_neg (by omega), if_pos (by omega)]; congr 1; omega⟩
    · exact ⟨k - m + a, by omega, by omega, by rw [if_pos (by omega)]; congr 1; omega⟩
  · unfold rotF
    rw [if_neg (by omega), if_neg (by omega)]
end Go.Proofs.Ytkabmmpccfeffaa
