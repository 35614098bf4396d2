/- Layer 15 (value): what holds of a content's state goes on to hold. -/
import Derived.Test.YtkabmmpccfeffaaVTakes
namespace Go.Proofs.Ytkabmmpccfeffaa
open Go.RowKit
set_option linter.unusedVariables false
set_option linter.unusedSimpArgs false
theorem txtFirst_range (b : Int) : 0 ≤ (txtFirst b).1 ∧ (txtFirst b).1 ≤ 3 := by
  unfold txtFirst
  repeat' split
  all_goals exact ⟨by decide, by decide⟩
theorem numPush_next (tag n at_ first b : Int) : numPush tag n at_ first b = none ∨ ∃ y, numPush tag n at_ first b = some (numC tag n (at_ + 1) y) := by
  unfold numPush
  repeat' (first | exact .inl rfl | exact .inr ⟨_, rfl⟩ | split)
theorem oidPush_next (left : Int) (within : Bool) (b : Int) : oidPush left within b = none ∨ ∃ y, oidPush left within b = some (oidC (left - 1) y) := by
  unfold oidPush
  repeat' (first | exact .inl rfl | exact .inr ⟨_, rfl⟩ | split)
theorem bitPush_next (left : Int) (begun : Bool) (unused b : Int) : bitPush left begun unused b = none ∨ bitPush left begun unused b = some (bitC (left - 1) true unused) ∨ (b ≤ 7 ∧ bitPush left begun unused b = some (bitC (left - 1) true b)) := by
  unfold bitPush
  by_cases hb : 7 < b
  · rw [decide_eq_true hb]
    repeat' (first | exact .inl rfl | exact .inr (.inl rfl) | split)
  · repeat' (first | exact .inl rfl | exact .inr (.inl rfl) | exact .inr (.inr ⟨by omega, rfl⟩) | split)
theorem txtPush_next (tag left more low high b : Int) (h0 : 0 ≤ more) (h1 : more ≤ 3) : txtPush tag left more low high b = none ∨ ∃ m lo hi, 0 ≤ m ∧ m ≤ 3 ∧ txtPush tag left more low high b = some (txtC tag (left - 1) m lo hi) := by
  have hf := txtFirst_range b
  have hu : txtUtf8 tag (left - 1) more low high b = none ∨ ∃ m lo hi, 0 ≤ m ∧ m ≤ 3 ∧ txtUtf8 tag (left - 1) more low high b = some (txtC tag (left - 1) m lo hi) := by
    unfold txtUtf8
    by_cases hm : 0 < more
    · rw [decide_eq_true hm]
      simp only [if_true]
      repeat' (first | exact .inl rfl | exact .inr ⟨_, _, _, by omega, by omega, rfl⟩ | split)
    · rw [decide_eq_false hm]
      simp only [Bool.false_eq_true, if_false]
      repeat' (first | exact .inl rfl | exact .inr ⟨_, _, _, hf.1, hf.2, rfl⟩ | split)
  unfold txtPush
  split
  · exact hu
  · repeat' (first | exact .inl rfl | exact .inr ⟨_, _, _, h0, h1, rfl⟩ | split)
theorem whnNext_next (d : ByteArray) (left : Int) (utc : Bool) : whnNext d left utc = none ∨ whnNext d left utc = some (whnC d left utc) := by
  unfold whnNext
  repeat' (first | exact .inl rfl | exact .inr rfl | split)
theorem whnPush_next (date : ByteArray) (left : Int) (utc : Bool) (b : Int) : whnPush date left utc b = none ∨ (left = 1 ∧ whnPush date left utc b = some (whnC date (left - 1) utc)) ∨ (left ≠ 1 ∧ 48 ≤ b ∧ b ≤ 57 ∧ whnPush date left utc b = some (whnC (whnD0 date utc b ++ strOfNums [b]) (left - 1) utc)) := by
  unfold whnPush
  by_cases hl : left = 1
  · subst hl
    simp only [Int.sub_self, beq_self_eq_true, if_true]
    repeat' (first | exact .inl rfl | exact .inr (.inl ⟨trivial, rfl⟩) | exact .inr (.inl ⟨rfl, rfl⟩) | split)
  · rw [if_neg (by simp; omega)]
    by_cases h0 : b < 48
    · rw [if_pos (decide_eq_true h0)]; exact .inl rfl
    · rw [if_neg (by rw [decide_eq_false h0]; decide)]
      by_cases h1 : 57 < b
      · rw [if_pos (decide_eq_true h1)]; exact .inl rfl
      · rw [if_neg (by rw [decide_eq_false h1]; decide)]
        rcases whnNext_next (whnD0 date utc b ++ strOfNums [b]) (left - 1) utc with h | h
        · exact .inl h
        · exact .inr (.inr ⟨hl, by omega, by omega, h⟩)
theorem cPush_inv {st st' : CSt} {r b : Int} (h : cPush st b = some st') (hi : CInv st r) (hr : 0 < r) (h0 : 0 ≤ b) (h1 : b ≤ 255) : CInv st' (r - 1) := by
  cases st with
  | any =>
    injection h with h; subst h; trivial
  | num tag n at_ first =>
    rcases numPush_next tag n at_ first b with e | ⟨y, e⟩
    · simp [cPush, e] at h
    · simp only [cPush, e, Option.map_some, decNum, numC] at h
      injection h with h; subst h
      exact ⟨by have := hi.1; omega, by have := hi.2; omega⟩
  | oid left within =>
    have hi : left = r := hi
    rcases oidPush_next left within b with e | ⟨y, e⟩
    · simp [cPush, e] at h
    · simp only [cPush, e, Option.map_some, decOid, oidC] at h
      injection h with h; subst h
      show left - 1 = r - 1
      omega
  | bit left begun unused =>
    obtain ⟨hi1, hi2, hi3⟩ := hi
    rcases bitPush_next left begun unused b with e | e | ⟨hb, e⟩
    · simp [cPush, e] at h
    · simp only [cPush, e, Option.map_some, decBit, bitC] at h
      injection h with h; subst h
      exact ⟨by omega, hi2, hi3⟩
    · simp only [cPush, e, Option.map_some, decBit, bitC] at h
      injection h with h; subst h
      exact ⟨by omega, h0, hb⟩
  | whn date left utc =>
    obtain ⟨hi1, hi2⟩ := hi
    obtain ⟨hi2, hi3⟩ := hi2 hr
    rcases whnPush_next date left utc b with e | ⟨hl, e⟩ | ⟨hl, hb0, hb1, e⟩
    · simp [cPush, e] at h
    · simp only [cPush, e, Option.map_some, decWhn, whnC] at h
      injection h with h; subst h
      exact ⟨by omega, fun h => by omega⟩
    · simp only [cPush, e, Option.map_some, decWhn, whnC] at h
      injection h with h; subst h
      refine ⟨by omega, fun _ => ?_⟩
      have sz : ∀ d : ByteArray, (d ++ strOfNums [b]).size = d.size + 1 := fun d => by simp [strOfNums_size]
      have empty : ∀ d : ByteArray, d.size = 0 → d.toList.isEmpty = true := by
        intro d hd
        rw [ByteArray.toList_eq, List.isEmpty_iff]
        exact List.eq_nil_of_length_eq_zero (by simpa using hd)
      have nonempty : ∀ d : ByteArray, d.toList.isEmpty = true → d.size = 0 := by
        intro d hd
        rw [ByteArray.toList_eq, List.isEmpty_iff] at hd
        have := congrArg List.length hd
        simpa using this
      have hi4 : utc = true → date.size = 0 → left = 13 := by
        intro h1 h2
        rcases hi3 with h | h
        · have := h.2 h1; omega
        · exact h.2.2
      unfold whnD0
      split
      · rename_i q
        have hq : utc = true ∧ date.toList.isEmpty = true := by simpa using q
        have hs := nonempty _ hq.2
        split
        · exact ⟨AllDig.snoc (s := ⟨#[49, 57]⟩) (by intro x hx; simp [bytesOf] at hx; rcases hx with rfl | rfl <;> decide) b hb0 hb1, .inl ⟨by rw [sz]; have : (⟨#[49, 57]⟩ : ByteArray).size = 2 := rfl; have := hi4 hq.1 hs; omega, fun _ => by rw [sz]; omega⟩⟩
        · exact ⟨AllDig.snoc (s := ⟨#[50, 48]⟩) (by intro x hx; simp [bytesOf] at hx; rcases hx with rfl | rfl <;> decide) b hb0 hb1, .inl ⟨by rw [sz]; have : (⟨#[50, 48]⟩ : ByteArray).size = 2 := rfl; have := hi4 hq.1 hs; omega, fun _ => by rw [sz]; omega⟩⟩
      · rename_i q
        refine ⟨hi2.snoc b hb0 hb1, .inl ⟨?_, fun _ => by rw [sz]; omega⟩⟩
        rw [sz]
        rcases hi3 with ⟨h, _⟩ | ⟨h1, h2, _⟩
        · omega
        · exact absurd (by rw [h1, empty _ h2]; rfl) q
  | txt tag left more low high =>
    obtain ⟨hi1, hi2, hi3⟩ := hi
    rcases txtPush_next tag left more low high b hi2 hi3 with e | ⟨m, lo, hi, m0, m1, e⟩
    · simp [cPush, e] at h
    · simp only [cPush, e, Option.map_some, decTxt, txtC] at h
      injection h with h; subst h
      exact ⟨by omega, m0, m1⟩
theorem cStart_inv {st : CSt} {tag len : Int} (h : cStart tag len = some st) (h0 : 0 ≤ len) (h1 : len ≤ 2305843009213693951) : CInv st len := by
  unfold cStart at h
  have num : ∀ {q}, (numStart tag len).map decNum = some q → CInv q len := by
    intro q hq
    have : numStart tag len = none ∨ numStart tag len = some (numC tag len 0 0) := by unfold numStart; repeat' (first | exact .inl rfl | exact .inr rfl | split)
    rcases this with e | e
    · simp [e] at hq
    · simp only [e, Option.map_some, decNum, numC] at hq
      injection hq with hq; subst hq
      exact ⟨Int.le_refl _, by omega⟩
  have whn : ∀ {q}, (whnStart tag len).map decWhn = some q → CInv q len := by
    intro q hq
    have : whnStart tag len = none ∨ (len = 13 ∧ whnStart tag len = some (whnC ⟨#[]⟩ len true)) ∨ (len = 15 ∧ whnStart tag len = some (whnC ⟨#[]⟩ len false)) := by
      unfold whnStart
      by_cases h13 : len = 13
      · subst h13
        repeat' (first | exact .inl rfl | exact .inr (.inl ⟨rfl, rfl⟩) | split)
        all_goals (first | exact .inl rfl | (rename_i q _; exact absurd q (by decide)) | (rename_i q; exact absurd q (by decide)))
      · have h13' : (len == 13) = false := beq_eq_false_iff_ne.2 h13
        rw [h13']
        simp only [Bool.false_eq_true, if_false]
        by_cases h15 : len = 15
        · subst h15
          repeat' (first | exact .inl rfl | exact .inr (.inr ⟨rfl, rfl⟩) | split)
        · have h15' : (len == 15) = false := beq_eq_false_iff_ne.2 h15
          rw [h15']
          simp only [Bool.false_eq_true, if_false]
          repeat' (first | exact .inl rfl | split)
    rcases this with e | ⟨hl, e⟩ | ⟨hl, e⟩
    · simp [e] at hq
    · simp only [e, Option.map_some, decWhn, whnC] at hq
      injection hq with hq; subst hq
      exact ⟨rfl, fun _ => ⟨by intro x hx; simp [bytesOf] at hx, .inr ⟨rfl, rfl, hl⟩⟩⟩
    · simp only [e, Option.map_some, decWhn, whnC] at hq
      injection hq with hq; subst hq
      exact ⟨rfl, fun _ => ⟨by intro x hx; simp [bytesOf] at hx, .inl ⟨by rw [hl]; rfl, (fun h => by cases h)⟩⟩⟩
  have oid : ∀ {q}, (oidStart len).map decOid = some q → CInv q len := by
    intro q hq
    have : oidStart len = none ∨ oidStart len = some (oidC len false) := by unfold oidStart; repeat' (first | exact .inl rfl | exact .inr rfl | split)
    rcases this with e | e
    · simp [e] at hq
    · simp only [e, Option.map_some, decOid, oidC] at hq
      injection hq with hq; subst hq
      rfl
  have bit : ∀ {q}, (bitStart len).map decBit = some q → CInv q len := by
    intro q hq
    have : bitStart len = none ∨ bitStart len = some (bitC len false 0) := by unfold bitStart; repeat' (first | exact .inl rfl | exact .inr rfl | split)
    rcases this with e | e
    · simp [e] at hq
    · simp only [e, Option.map_some, decBit, bitC] at hq
      injection hq with hq; subst hq
      exact ⟨rfl, by decide, by decide⟩
  have txt : ∀ {q}, (txtStart tag len).map decTxt = some q → CInv q len := by
    intro q hq
    have : txtStart tag len = none ∨ txtStart tag len = some (txtC tag len 0 0 0) := by unfold txtStart; repeat' (first | exact .inl rfl | exact .inr rfl | split)
    rcases this with e | e
    · simp [e] at hq
    · simp only [e, Option.map_some, decTxt, txtC] at hq
      injection hq with hq; subst hq
      exact ⟨rfl, by decide, by decide⟩
  repeat' (first | exact num h | exact oid h | exact bit h | exact whn h | exact txt h | (cases h; done) | split at h)
end Go.Proofs.Ytkabmmpccfeffaa
