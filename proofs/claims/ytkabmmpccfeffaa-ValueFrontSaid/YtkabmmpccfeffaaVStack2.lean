/- Layer 8 (stack): one contract a function. -/
import Derived.Test.YtkabmmpccfeffaaVStack
namespace Go.Proofs.Ytkabmmpccfeffaa
open Go.RowKit

def stTake : List Int → Int × List Int
  | [] => (0, [])
  | x :: r => if x = 0 then (5, x :: r) else (0, (x - 1) :: r)
def stLeave : List Int → Bool × List Int
  | [] => (false, [])
  | x :: r => if x = 0 then (true, r) else (false, x :: r)
def stLeft : List Int → Int
  | [] => -1
  | x :: _ => x
def stEnter (most : Nat) (n : Int) : List Int → Int × List Int
  | [] => if most = 0 then (10, []) else (0, [n])
  | x :: r => if x < n then (5, x :: r) else if r.length + 1 = most then (10, x :: r) else (0, n :: (x - n) :: r)
section
variable {w : World} {B g most : Nat} {ls : List Int}
theorem IsStack.pos {x : Int} {r : List Int} (h : IsStack w B g most (x :: r)) : 0 ≤ x := by
  obtain ⟨_, _, _, _, _, _, _, _, _, h6⟩ := h; exact (h6 x (by simp)).1
theorem IsStack.len (h : IsStack w B g most ls) : ls.length ≤ most := by
  obtain ⟨_, _, _, _, _, _, _, h6, _⟩ := h; exact h6
theorem stake_any (h : IsStack w B g most ls) : Calls Try.prog 150 #[.pointer (some ⟨g, 0, none⟩)] w fun e w' => e = .returned (.int .i64 (stTake ls).1) ∧ IsStack w' B g most (stTake ls).2 ∧ Fr (· = g) w w' := by
  cases ls with
  | nil => exact (stake_none h).mono fun e w' ⟨he, n, hw⟩ => ⟨he, by subst hw; exact h, by subst hw; exact (Fr.refl _ _).drewN _⟩
  | cons x r =>
    simp only [stTake]
    by_cases hx : x = 0
    · subst hx
      simp only [if_true]
      exact (stake_fit h).mono fun e w' ⟨he, n, hw⟩ => ⟨he, by subst hw; exact h, by subst hw; exact (Fr.refl _ _).drewN _⟩
    · simp only [if_neg hx]
      exact stake_ok h (by have := h.pos; omega)
theorem sleave_any (h : IsStack w B g most ls) : Calls Try.prog 111 #[.pointer (some ⟨g, 0, none⟩)] w fun e w' => e = .returned (.bool (stLeave ls).1) ∧ IsStack w' B g most (stLeave ls).2 ∧ Fr (· = g) w w' := by
  cases ls with
  | nil => exact (sleave_none h).mono fun e w' ⟨he, n, hw⟩ => ⟨he, by subst hw; exact h, by subst hw; exact (Fr.refl _ _).drewN _⟩
  | cons x r =>
    simp only [stLeave]
    by_cases hx : x = 0
    · subst hx
      simp only [if_true]
      exact sleave_yes h
    · simp only [if_neg hx]
      exact (sleave_no h (by have := h.pos; omega)).mono fun e w' ⟨he, n, hw⟩ => ⟨he, by subst hw; exact h, by subst hw; exact (Fr.refl _ _).drewN _⟩
theorem sleft_any (h : IsStack w B g most ls) : Calls Try.prog 178 #[.pointer (some ⟨g, 0, none⟩)] w fun e w' => e = .returned (.int .i64 (stLeft ls)) ∧ ∃ n, w' = w.drewN n := by
  cases ls with
  | nil => exact sleft_none h
  | cons x r => exact sleft_some h
theorem senter_any (h : IsStack w B g most ls) (n : Int) (hn : 0 ≤ n) (hn2 : n ≤ 2305843009213693951) :
    Calls Try.prog 179 #[.pointer (some ⟨g, 0, none⟩), .int .i64 n] w fun e w' => e = .returned (.int .i64 (stEnter most n ls).1) ∧ IsStack w' B g most (stEnter most n ls).2 ∧ Fr (· = g) w w' := by
  have hl := h.len
  cases ls with
  | nil =>
    simp only [stEnter]
    by_cases hm : most = 0
    · subst hm
      simp only [if_true]
      exact (senter_deep0 h hn).mono fun e w' ⟨he, n, hw⟩ => ⟨he, by subst hw; exact h, by subst hw; exact (Fr.refl _ _).drewN _⟩
    · simp only [if_neg hm]
      exact senter_first h hn hn2 (by omega)
  | cons x r =>
    simp only [stEnter]
    by_cases hx : x < n
    · simp only [if_pos hx]
      exact (senter_fit h hn hx).mono fun e w' ⟨he, n, hw⟩ => ⟨he, by subst hw; exact h, by subst hw; exact (Fr.refl _ _).drewN _⟩
    · simp only [if_neg hx]
      simp at hl
      by_cases hm : r.length + 1 = most
      · simp only [if_pos hm]
        exact (senter_deep h hn (by omega) hm).mono fun e w' ⟨he, n, hw⟩ => ⟨he, by subst hw; exact h, by subst hw; exact (Fr.refl _ _).drewN _⟩
      · simp only [if_neg hm]
        exact senter_more h hn (by omega) (by omega)
end
end Go.Proofs.Ytkabmmpccfeffaa
