/- Plain lemmas on the blocks of a stable sort (at most 100 elements); symMerge, whole; stableCmpFunc. -/
import Derived.Test.YtkabmmpccfeffaaSortN
namespace Go.Proofs.Ytkabmmpccfeffaa
open Go.RowKit
set_option linter.unusedVariables false
set_option linter.unusedSimpArgs false

/-- Each block of bs places is sorted; what stands in an earlier block came from earlier. -/
structure Blk (lt : Nat → Nat → Prop) (τ : Nat → Nat) (bs n : Nat) : Prop where
  srt : ∀ x y, x < y → y < n → x / bs = y / bs → lt (τ x) (τ y)
  tag : ∀ x y, x < n → y < n → x / bs < y / bs → τ x < τ y
structure Mg (lt : Nat → Nat → Prop) (τ : Nat → Nat) (bs n a : Nat) : Prop where
  dv : a % (2 * bs) = 0
  i1 : ∀ x y, x < y → y < a → y < n → x / (2 * bs) = y / (2 * bs) → lt (τ x) (τ y)
  i2 : ∀ x y, a ≤ x → x < y → y < n → x / bs = y / bs → lt (τ x) (τ y)
  i3 : ∀ x y, a ≤ x → x < n → y < n → x / bs < y / bs → τ x < τ y
  i4 : ∀ x y, x < n → y < n → x / (2 * bs) < y / (2 * bs) → τ x < τ y
section
variable {lt : Nat → Nat → Prop} {τ υ : Nat → Nat} {bs n a : Nat} (hbs : bs = 20 ∨ bs = 40 ∨ bs = 80)
include hbs
theorem Mg.start (h : Blk lt τ bs n) : Mg lt τ bs n 0 :=
  ⟨by simp, fun x y h1 h2 => by omega, fun x y _ h1 h2 h3 => h.srt x y h1 h2 h3, fun x y _ h1 h2 h3 => h.tag x y h1 h2 h3, fun x y h1 h2 h3 => h.tag x y h1 h2 (by rcases hbs with rfl | rfl | rfl <;> omega)⟩
theorem Mg.two (h : Mg lt τ bs n a) {b : Nat} (h1 : a + bs ≤ b) (h2 : b ≤ a + 2 * bs) (h3 : b ≤ n) : Two lt τ a (a + bs) b := by
  have hd := h.dv
  refine ⟨fun k l k1 k2 k3 => h.i2 k l k1 k2 (by omega) ?_, fun k l k1 k2 k3 => h.i2 k l (by omega) k2 (by omega) ?_, fun k l k1 k2 k3 k4 => h.i3 k l k1 (by omega) (by omega) ?_⟩
  all_goals rcases hbs with rfl | rfl | rfl <;> omega
theorem Mg.step (h : Mg lt τ bs n a) {b : Nat} (hb : b = a + 2 * bs ∨ (b = n ∧ a + bs ≤ n ∧ n ≤ a + 2 * bs)) (hn : b ≤ n) (hi : Img τ υ a b) (hs : Srt lt υ a b) :
    (∀ x y, x < y → y < b → y < n → x / (2 * bs) = y / (2 * bs) → lt (υ x) (υ y)) ∧ (∀ x y, b ≤ x → x < y → y < n → x / bs = y / bs → lt (υ x) (υ y)) ∧
      (∀ x y, b ≤ x → x < n → y < n → x / bs < y / bs → υ x < υ y) ∧ (∀ x y, x < n → y < n → x / (2 * bs) < y / (2 * bs) → υ x < υ y) := by
  have hd := h.dv
  refine ⟨fun x y h1 h2 h3 h4 => ?_, fun x y h1 h2 h3 h4 => ?_, fun x y h1 h2 h3 h4 => ?_, fun x y h1 h2 h3 => ?_⟩
  · by_cases c : a ≤ x
    · exact hs x y c h1 h2
    · have hya : y < a := by rcases hbs with rfl | rfl | rfl <;> omega
      rw [hi.out x (.inl (by omega)), hi.out y (.inl hya)]
      exact h.i1 x y h1 hya h3 h4
  · rw [hi.out x (.inr h1), hi.out y (.inr (by omega))]
    exact h.i2 x y (by omega) h2 h3 h4
  · have hyb : b ≤ y := by rcases hbs with rfl | rfl | rfl <;> omega
    rw [hi.out x (.inr h1), hi.out y (.inr hyb)]
    exact h.i3 x y (by omega) h2 h3 h4
  · have key : ∀ z, z < n → ∃ z', z' < n ∧ z' / (2 * bs) = z / (2 * bs) ∧ υ z = τ z' := by
      intro z hz
      by_cases c : a ≤ z ∧ z < b
      · obtain ⟨l, l1, l2, e⟩ := hi.into z c.1 c.2
        exact ⟨l, by omega, by rcases hbs with rfl | rfl | rfl <;> omega, e⟩
      · exact ⟨z, hz, rfl, hi.out z (by omega)⟩
    obtain ⟨x', x1, x2, ex⟩ := key x h1
    obtain ⟨y', y1, y2, ey⟩ := key y h2
    rw [ex, ey]
    exact h.i4 x' y' x1 y1 (by omega)
theorem Mg.next (h : Mg lt τ bs n a) (hn : a + 2 * bs ≤ n) (hi : Img τ υ a (a + 2 * bs)) (hs : Srt lt υ a (a + 2 * bs)) : Mg lt υ bs n (a + 2 * bs) := by
  have hd := h.dv
  obtain ⟨h1, h2, h3, h4⟩ := h.step hbs (.inl rfl) hn hi hs
  exact ⟨by rcases hbs with rfl | rfl | rfl <;> omega, h1, h2, h3, h4⟩
theorem Mg.last (h : Mg lt τ bs n a) (h1 : a + bs ≤ n) (h2 : n ≤ a + 2 * bs) (hi : Img τ υ a n) (hs : Srt lt υ a n) : Blk lt υ (2 * bs) n := by
  obtain ⟨g1, g2, g3, g4⟩ := h.step hbs (.inr ⟨rfl, h1, h2⟩) (Nat.le_refl _) hi hs
  exact ⟨fun x y k1 k2 k3 => g1 x y k1 k2 k2 k3, g4⟩
theorem Mg.done (h : Mg lt τ bs n a) (h1 : n ≤ a + bs) : Blk lt τ (2 * bs) n := by
  have hd := h.dv
  refine ⟨fun x y k1 k2 k3 => ?_, h.i4⟩
  by_cases c : y < a
  · exact h.i1 x y k1 c k2 k3
  · exact h.i2 x y (by rcases hbs with rfl | rfl | rfl <;> omega) k1 k2 (by rcases hbs with rfl | rfl | rfl <;> omega)
end
theorem Blk.all {lt : Nat → Nat → Prop} {τ : Nat → Nat} {bs n : Nat} (h : Blk lt τ bs n) (hn : n ≤ bs) : Srt lt τ 0 n := fun k l _ h2 h3 => h.srt k l h2 h3 (by rw [Nat.div_eq_of_lt (by omega), Nat.div_eq_of_lt (by omega)])

/-- The first pass: blocks of twenty, up to a. -/
structure P20 (lt : Nat → Nat → Prop) (σ τ : Nat → Nat) (n a : Nat) : Prop where
  dv : a % 20 = 0
  img : ∀ x, a ≤ x → τ x = σ x
  srt : ∀ x y, x < y → y < a → x / 20 = y / 20 → lt (τ x) (τ y)
  back : ∀ x, x < a → ∃ y, y < a ∧ y / 20 = x / 20 ∧ τ x = σ y
theorem P20.start {lt : Nat → Nat → Prop} (σ : Nat → Nat) (n : Nat) : P20 lt σ σ n 0 := ⟨rfl, fun _ _ => rfl, fun x y _ h => by omega, fun x h => by omega⟩
theorem P20.tag {lt : Nat → Nat → Prop} {σ τ : Nat → Nat} {n a : Nat} (h : P20 lt σ τ n a) (hσ : ∀ x y, x < y → y < n → σ x < σ y) {b : Nat} (hb : b ≤ n) : ∀ k l, a ≤ k → k < l → l < b → τ k < τ l := fun k l h1 h2 h3 => by
  rw [h.img k h1, h.img l (by omega)]; exact hσ k l h2 (by omega)
theorem P20.step {lt : Nat → Nat → Prop} {σ τ υ : Nat → Nat} {n a b : Nat} (h : P20 lt σ τ n a) (h1 : a ≤ b) (h2 : b ≤ a + 20) (hi : Img τ υ a b) (hs : Srt lt υ a b) :
    (∀ x, b ≤ x → υ x = σ x) ∧ (∀ x y, x < y → y < b → x / 20 = y / 20 → lt (υ x) (υ y)) ∧ (∀ x, x < b → ∃ y, y < b ∧ y / 20 = x / 20 ∧ υ x = σ y) := by
  have hd := h.dv
  refine ⟨fun x hx => (hi.out x (.inr hx)).trans (h.img x (by omega)), fun x y k1 k2 k3 => ?_, fun x hx => ?_⟩
  · by_cases c : a ≤ x
    · exact hs x y c k1 k2
    · rw [hi.out x (.inl (by omega)), hi.out y (.inl (by omega))]
      exact h.srt x y k1 (by omega) k3
  · by_cases c : a ≤ x
    · obtain ⟨l, l1, l2, e⟩ := hi.into x c hx
      exact ⟨l, l2, by omega, e.trans (h.img l l1)⟩
    · obtain ⟨y, y1, y2, e⟩ := h.back x (by omega)
      exact ⟨y, by omega, y2, (hi.out x (.inl (by omega))).trans e⟩
theorem P20.next {lt : Nat → Nat → Prop} {σ τ υ : Nat → Nat} {n a : Nat} (h : P20 lt σ τ n a) (hi : Img τ υ a (a + 20)) (hs : Srt lt υ a (a + 20)) : P20 lt σ υ n (a + 20) := by
  have hd := h.dv
  obtain ⟨g1, g2, g3⟩ := h.step (by omega) (by omega) hi hs
  exact ⟨by omega, g1, g2, g3⟩
theorem P20.last {lt : Nat → Nat → Prop} {σ τ υ : Nat → Nat} {n a : Nat} (h : P20 lt σ τ n a) (h1 : a ≤ n) (h2 : n ≤ a + 20) (hσ : ∀ x y, x < y → y < n → σ x < σ y) (hi : Img τ υ a n) (hs : Srt lt υ a n) : Blk lt υ 20 n := by
  obtain ⟨g1, g2, g3⟩ := h.step h1 h2 hi hs
  refine ⟨g2, fun x y k1 k2 k3 => ?_⟩
  obtain ⟨x', x1, x2, ex⟩ := g3 x k1
  obtain ⟨y', y1, y2, ey⟩ := g3 y k2
  rw [ex, ey]
  exact hσ x' y' (by omega) y1

theorem sym_all (d : Nat → ByteArray) (hd : ∀ i, (d i).size ≤ 65536) (O : Ord (Prec d)) (g n cap : Nat) (hn : n ≤ 1000000) (D : Nat) : SymIH d g n cap D := by
  induction D with
  | zero =>
    unfold SymIH
    intro w a m b σ A M B hA hM hB hD
    exact absurd hD (Nat.not_lt_zero _)
  | succ D ih =>
    unfold SymIH
    intro w a m b σ A M B hA hM hB hD H T ham hmb hb
    by_cases c1 : m = a + 1
    · subst c1
      exact sym_one d hd O hA (by rw [hM]; rfl) hB H T (by omega) hb hn
    · by_cases c2 : b = m + 1
      · subst c2
        exact sym_last d hd O hA hM (by rw [hB]; rfl) H T (by omega) c1 hb hn
      · subst hA; subst hM; subst hB
        have ih' : SymIH d g n cap (b - a) := by
          unfold SymIH
          intro w a' m' b' σ A M B e1 e2 e3 h
          exact ih e1 e2 e3 (by omega)
        by_cases c3 : (a + b) / 2 < m
        · exact sym_high d hd O ih' H T (by omega) (by omega) hb hn rfl c3
        · exact sym_low d hd O ih' H T (by omega) (by omega) hb hn rfl (by omega)
end Go.Proofs.Ytkabmmpccfeffaa
