/- Plain lemmas on merging two sorted runs by rotations (symMerge): no program. -/
import Derived.Test.YtkabmmpccfeffaaStab
namespace Go.Proofs.Ytkabmmpccfeffaa
set_option linter.unusedVariables false

theorem rotF_triv (σ : Nat → Nat) (a m b : Nat) (h : a = m ∨ m = b) (h1 : a ≤ m) (h2 : m ≤ b) : rotF σ a m b = σ := by
  funext x
  simp only [rotF]
  (repeat' split) <;> first | rfl | (congr 1; omega) | (exfalso; omega)

/-- What the search for the cut has found. -/
structure Cut (lt : Nat → Nat → Prop) (σ : Nat → Nat) (a m b s e : Nat) : Prop where
  c1 : a ≤ s
  c2 : s ≤ m
  c3 : m ≤ e
  c4 : e ≤ b
  low : ∀ i j, a ≤ i → i < s → e ≤ j → j < b → lt (σ i) (σ j)
  high : ∀ i j, s ≤ i → i < m → m ≤ j → j < e → lt (σ j) (σ i)

/-- Runs to be merged. -/
structure Two (lt : Nat → Nat → Prop) (σ : Nat → Nat) (a m b : Nat) : Prop where
  left : Srt lt σ a m
  right : Srt lt σ m b
  tag : ∀ k l, a ≤ k → k < m → m ≤ l → l < b → σ k < σ l

theorem rot1 {σ : Nat → Nat} {s m e x : Nat} (h : x < s) : rotF σ s m e x = σ x := by unfold rotF; rw [if_neg (by omega), if_neg (by omega)]
theorem rot2 {σ : Nat → Nat} {s m e x : Nat} (h : s ≤ x) (h2 : x < s + (e - m)) : rotF σ s m e x = σ (x - s + m) := by unfold rotF; rw [if_pos ⟨h, h2⟩]
theorem rot3 {σ : Nat → Nat} {s m e x : Nat} (h : s + (e - m) ≤ x) (h2 : x < e) : rotF σ s m e x = σ (x - (e - m)) := by unfold rotF; rw [if_neg (by omega), if_pos ⟨h, h2⟩]
theorem rot4 {σ : Nat → Nat} {s m e x : Nat} (h : e ≤ x) (hs : s ≤ m) (hm : m ≤ e) : rotF σ s m e x = σ x := by unfold rotF; rw [if_neg (by omega), if_neg (by omega)]

theorem Cut.left {lt : Nat → Nat → Prop} {σ : Nat → Nat} {a m b s e : Nat} (h : Two lt σ a m b) (c : Cut lt σ a m b s e) : Two lt (rotF σ s m e) a s (s + (e - m)) := by
  obtain ⟨c1, c2, c3, c4, c5, c6⟩ := c
  refine ⟨fun k l h1 h2 h3 => ?_, fun k l h1 h2 h3 => ?_, fun k l h1 h2 h3 h4 => ?_⟩
  · rw [rot1 (by omega), rot1 (by omega)]; exact h.left k l h1 h2 (by omega)
  · rw [rot2 (by omega) (by omega), rot2 (by omega) (by omega)]; exact h.right _ _ (by omega) (by omega) (by omega)
  · rw [rot1 (by omega), rot2 (by omega) (by omega)]; exact h.tag _ _ (by omega) (by omega) (by omega) (by omega)
theorem Cut.right {lt : Nat → Nat → Prop} {σ : Nat → Nat} {a m b s e : Nat} (h : Two lt σ a m b) (c : Cut lt σ a m b s e) : Two lt (rotF σ s m e) (s + (e - m)) e b := by
  obtain ⟨c1, c2, c3, c4, c5, c6⟩ := c
  refine ⟨fun k l h1 h2 h3 => ?_, fun k l h1 h2 h3 => ?_, fun k l h1 h2 h3 h4 => ?_⟩
  · rw [rot3 (by omega) (by omega), rot3 (by omega) (by omega)]; exact h.left _ _ (by omega) (by omega) (by omega)
  · rw [rot4 (by omega) c2 c3, rot4 (by omega) c2 c3]; exact h.right _ _ (by omega) (by omega) (by omega)
  · rw [rot3 (by omega) (by omega), rot4 (by omega) c2 c3]; exact h.tag _ _ (by omega) (by omega) (by omega) (by omega)
theorem Cut.across {lt : Nat → Nat → Prop} {σ : Nat → Nat} {a m b s e : Nat} (h : Two lt σ a m b) (c : Cut lt σ a m b s e) :
    ∀ x y, a ≤ x → x < s + (e - m) → s + (e - m) ≤ y → y < b → lt (rotF σ s m e x) (rotF σ s m e y) := by
  obtain ⟨c1, c2, c3, c4, c5, c6⟩ := c
  intro x y h1 h2 h3 h4
  by_cases d1 : x < s
  · by_cases d2 : y < e
    · rw [rot1 d1, rot3 h3 d2]; exact h.left _ _ h1 (by omega) (by omega)
    · rw [rot1 d1, rot4 (by omega) c2 c3]; exact c5 _ _ h1 d1 (by omega) h4
  · by_cases d2 : y < e
    · rw [rot2 (by omega) h2, rot3 h3 d2]; exact c6 _ _ (by omega) (by omega) (by omega) (by omega)
    · rw [rot2 (by omega) h2, rot4 (by omega) c2 c3]; exact h.right _ _ (by omega) (by omega) h4
/-- Both halves sorted: the whole is. -/
theorem srt_join {lt : Nat → Nat → Prop} {σ σ2 σ3 : Nat → Nat} {a mid b : Nat} (hx : ∀ x y, a ≤ x → x < mid → mid ≤ y → y < b → lt (σ x) (σ y)) (h1 : Img σ σ2 a mid) (h2 : Img σ2 σ3 mid b)
    (s1 : Srt lt σ2 a mid) (s2 : Srt lt σ3 mid b) : Srt lt σ3 a b := by
  intro k l k1 k2 k3
  by_cases d1 : l < mid
  · rw [h2.out k (.inl (by omega)), h2.out l (.inl d1)]; exact s1 k l k1 k2 d1
  · by_cases d2 : mid ≤ k
    · exact s2 k l d2 k2 k3
    · obtain ⟨x, x1, x2, ex⟩ := h1.into k k1 (by omega)
      obtain ⟨y, y1, y2, ey⟩ := h2.into l (by omega) k3
      rw [h2.out k (.inl (by omega)), ex, ey, h1.out y (.inr (by omega))]
      exact hx x y x1 x2 y1 y2

theorem srt_ins1 {lt : Nat → Nat → Prop} {σ : Nat → Nat} {a b i : Nat} (hs : Srt lt σ (a + 1) b) (h1 : a + 1 ≤ i) (h2 : i ≤ b) (hl : ∀ h, a + 1 ≤ h → h < i → lt (σ h) (σ a)) (hh : ∀ h, i ≤ h → h < b → lt (σ a) (σ h)) :
    Srt lt (rotF σ a (a + 1) i) a b := by
  have e1 : ∀ x, a ≤ x → x < i - 1 → rotF σ a (a + 1) i x = σ (x + 1) := fun x q1 q2 => by rw [rot2 q1 (by omega)]; congr 1; omega
  have e2 : rotF σ a (a + 1) i (i - 1) = σ a := by rw [rot3 (by omega) (by omega)]; congr 1; omega
  have e3 : ∀ x, i ≤ x → rotF σ a (a + 1) i x = σ x := fun x q => rot4 q (by omega) (by omega)
  intro k l k1 k2 k3
  by_cases d1 : l < i - 1
  · rw [e1 k k1 (by omega), e1 l (by omega) d1]; exact hs _ _ (by omega) (by omega) (by omega)
  · by_cases d2 : l = i - 1
    · rw [e1 k k1 (by omega), d2, e2]; exact hl _ (by omega) (by omega)
    · rw [e3 l (by omega)]
      by_cases d3 : k < i - 1
      · rw [e1 k k1 d3]; exact hs _ _ (by omega) (by omega) (by omega)
      · by_cases d4 : k = i - 1
        · rw [d4, e2]; exact hh l (by omega) k3
        · rw [e3 k (by omega)]; exact hs _ _ (by omega) (by omega) (by omega)
theorem srt_ins2 {lt : Nat → Nat → Prop} {σ : Nat → Nat} {a m i : Nat} (hs : Srt lt σ a m) (h1 : a ≤ i) (h2 : i ≤ m) (hl : ∀ h, a ≤ h → h < i → lt (σ h) (σ m)) (hh : ∀ h, i ≤ h → h < m → lt (σ m) (σ h)) :
    Srt lt (rotF σ i m (m + 1)) a (m + 1) := by
  have e1 : ∀ x, x < i → rotF σ i m (m + 1) x = σ x := fun x q => rot1 q
  have e2 : rotF σ i m (m + 1) i = σ m := by rw [rot2 (by omega) (by omega)]; congr 1; omega
  have e3 : ∀ x, i < x → x ≤ m → rotF σ i m (m + 1) x = σ (x - 1) := fun x q1 q2 => by rw [rot3 (by omega) (by omega)]; congr 1; omega
  intro k l k1 k2 k3
  by_cases d1 : l < i
  · rw [e1 k (by omega), e1 l d1]; exact hs _ _ k1 k2 (by omega)
  · by_cases d2 : l = i
    · rw [e1 k (by omega), d2, e2]; exact hl _ k1 (by omega)
    · rw [e3 l (by omega) (by omega)]
      by_cases d3 : k < i
      · rw [e1 k d3]; exact hs _ _ k1 (by omega) (by omega)
      · by_cases d4 : k = i
        · rw [d4, e2]; exact hh _ (by omega) (by omega)
        · rw [e3 k (by omega) (by omega)]; exact hs _ _ (by omega) (by omega) (by omega)
theorem rot_up (σ : Nat → Nat) (a k : Nat) (h : a ≤ k) : swp (rotF σ a (a + 1) (k + 1)) k (k + 1) = rotF σ a (a + 1) (k + 2) := by
  funext x
  simp only [rotF, swp]
  (repeat' split) <;> first | rfl | (congr 1; omega) | (exfalso; omega)
theorem rot_down (σ : Nat → Nat) (k m : Nat) (h : k < m) : swp (rotF σ (k + 1) m (m + 1)) (k + 1) k = rotF σ k m (m + 1) := by
  funext x
  simp only [rotF, swp]
  (repeat' split) <;> first | rfl | (congr 1; omega) | (exfalso; omega)

/-- The search for the cut, under way. -/
structure Seek (lt : Nat → Nat → Prop) (σ : Nat → Nat) (p s0 r0 s r : Nat) : Prop where
  lo : s0 ≤ s
  sr : s ≤ r
  hi : r ≤ r0
  yes : ∀ c, s0 ≤ c → c < s → lt (σ c) (σ (p - c))
  no : ∀ c, r ≤ c → c < r0 → lt (σ (p - c)) (σ c)
/-- The places that the search looks at lie in the two runs. -/
structure Span (a m b p s0 r0 : Nat) : Prop where
  h1 : a ≤ s0
  h2 : r0 ≤ m
  h3 : ∀ c, s0 ≤ c → c < r0 → m ≤ p - c ∧ p - c < b ∧ c ≤ p
theorem Seek.up {lt : Nat → Nat → Prop} (O : Ord lt) {σ : Nat → Nat} {a m b p s0 r0 s r c : Nat} (T : Two lt σ a m b) (S : Span a m b p s0 r0) (h : Seek lt σ p s0 r0 s r) (h1 : s ≤ c) (h2 : c < r) (hc : ¬ lt (σ (p - c)) (σ c)) : Seek lt σ p s0 r0 (c + 1) r := by
  obtain ⟨g1, g2, g3, g4, g5⟩ := h
  obtain ⟨s1, s2, s3⟩ := S
  have hcc := s3 c (by omega) (by omega)
  have hx : lt (σ c) (σ (p - c)) := O.tot (by have := T.tag c (p - c) (by omega) (by omega) (by omega) (by omega); omega) hc
  refine ⟨by omega, by omega, g3, fun d d1 d2 => ?_, g5⟩
  by_cases e : d = c
  · subst e; exact hx
  · have hd := s3 d (by omega) (by omega)
    exact O.tr (O.tr (T.left d c (by omega) (by omega) (by omega)) hx) (T.right (p - c) (p - d) (by omega) (by omega) (by omega))
theorem Seek.down {lt : Nat → Nat → Prop} (O : Ord lt) {σ : Nat → Nat} {a m b p s0 r0 s r c : Nat} (T : Two lt σ a m b) (S : Span a m b p s0 r0) (h : Seek lt σ p s0 r0 s r) (h1 : s ≤ c) (h2 : c < r) (hc : lt (σ (p - c)) (σ c)) : Seek lt σ p s0 r0 s c := by
  obtain ⟨g1, g2, g3, g4, g5⟩ := h
  obtain ⟨s1, s2, s3⟩ := S
  have hcc := s3 c (by omega) (by omega)
  refine ⟨g1, h1, by omega, g4, fun d d1 d2 => ?_⟩
  by_cases e : d = c
  · subst e; exact hc
  · have hd := s3 d (by omega) (by omega)
    exact O.tr (O.tr (T.right (p - d) (p - c) (by omega) (by omega) (by omega)) hc) (T.left c d (by omega) (by omega) (by omega))
theorem Seek.cut {lt : Nat → Nat → Prop} (O : Ord lt) {σ : Nat → Nat} {a m b p s0 r0 s : Nat} (T : Two lt σ a m b) (S : Span a m b p s0 r0) (h : Seek lt σ p s0 r0 s s) (hp : s ≤ p + 1)
    (e1 : s0 ≠ a → p + 1 - s0 = b) (e2 : r0 ≠ m → p + 1 - r0 = m) (hm : m ≤ p + 1 - s) (hb : p + 1 - s ≤ b) : Cut lt σ a m b s (p + 1 - s) := by
  obtain ⟨g1, g2, g3, g4, g5⟩ := h
  obtain ⟨s1, s2, s3⟩ := S
  refine ⟨by omega, by omega, hm, hb, fun i j i1 i2 j1 j2 => ?_, fun i j i1 i2 j1 j2 => ?_⟩
  · by_cases c : s = s0
    · by_cases ca : s0 = a
      · omega
      · have := e1 ca; omega
    · have hx := g4 (s - 1) (by omega) (by omega)
      have h3 := s3 (s - 1) (by omega) (by omega)
      have hxe : p - (s - 1) = p + 1 - s := by omega
      rw [hxe] at hx
      have hx1 : lt (σ i) (σ (p + 1 - s)) := by
        by_cases d : i = s - 1
        · rw [d]; exact hx
        · exact O.tr (T.left i (s - 1) i1 (by omega) (by omega)) hx
      by_cases d : j = p + 1 - s
      · rw [d]; exact hx1
      · exact O.tr hx1 (T.right (p + 1 - s) j hm (by omega) j2)
  · by_cases c : s = r0
    · by_cases ca : r0 = m
      · omega
      · have := e2 ca; rw [← c] at this; omega
    · have hx := g5 s (Nat.le_refl _) (by omega)
      have h3 := s3 s (by omega) (by omega)
      have hx1 : lt (σ j) (σ s) := by
        by_cases d : j = p - s
        · rw [d]; exact hx
        · exact O.tr (T.right j (p - s) j1 (by omega) (by omega)) hx
      by_cases d : i = s
      · rw [d]; exact hx1
      · exact O.tr hx1 (T.left s i (by omega) (by omega) i2)
end Go.Proofs.Ytkabmmpccfeffaa
