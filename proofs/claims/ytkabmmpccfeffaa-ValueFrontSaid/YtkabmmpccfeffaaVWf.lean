/- Layers 9 and 15: the events of a text are of contents that are as long as their heads say. -/
import Derived.Test.YtkabmmpccfeffaaVVal
namespace Go.Proofs.Ytkabmmpccfeffaa
open Go.RowKit
set_option linter.unusedVariables false
set_option linter.unusedSimpArgs false
theorem WFrom.skip {r : Int} {x : Ev} {l : List Ev} (h3 : x.kind ≠ 3) (h2 : x.kind ≠ 2) (h : WFrom r l) : WFrom r (x :: l) := by
  unfold WFrom; rw [if_neg h3, if_neg h2]; exact h
theorem WFrom.exits {r : Int} {l : List Ev} (at_ : Int) (h : WFrom r l) : ∀ ls : List Int, WFrom r ((mExits at_ ls).1 ++ l) := by
  intro ls
  induction ls with
  | nil => exact h
  | cons x ls ih =>
    simp only [mExits]
    split
    · exact WFrom.skip (by simp) (by simp) ih
    · exact h
theorem mBegin_wf (most : Nat) (lefts : List Int) (at_ : Int) (h : Hd) (h2 : 0 ≤ h.len) (h3 : h.len ≤ 2305843009213693951) (l : List Ev) (hl : WFrom (mBegin most lefts 0 at_ h).2.2.2 l) :
    WFrom 0 ((mBegin most lefts 0 at_ h).2.1 ++ l) := by
  unfold mBegin at hl ⊢
  split
  · rename_i q; rw [if_pos q] at hl; exact hl
  · rename_i q
    rw [if_neg q] at hl
    split
    · rename_i c
      rw [if_pos c] at hl
      split
      · rename_i e; rw [if_pos e] at hl; exact WFrom.skip (by simp) (by simp) hl
      · rename_i e; rw [if_neg e] at hl; exact hl
    · rename_i c
      rw [if_neg c] at hl
      show WFrom 0 (_ :: (_ ++ l))
      unfold WFrom
      rw [if_neg (by simp), if_pos (by simp)]
      refine ⟨h2, h3, ?_⟩
      show WFrom h.len ((if h.len = 0 then [⟨4, at_, Hd.zero, 0⟩] else []) ++ l)
      split
      · exact WFrom.skip (by simp) (by simp) hl
      · exact hl
theorem mStep_wf (most : Nat) (s : MS) (b : Int) (h : MInv s) (hb0 : 0 ≤ b) (hb1 : b ≤ 255) (l : List Ev) (he : (mStep most s b).1 = 0) (hl : WFrom (mStep most s b).2.2.leaf l) : WFrom s.leaf ((mStep most s b).2.1 ++ l) := by
  obtain ⟨h0, h1, h2⟩ := h
  unfold mStep at hl he ⊢
  split
  · rename_i q
    rw [if_pos q] at hl
    show WFrom s.leaf (mByte s.leaf s.at_ b ++ l)
    unfold mByte
    show WFrom s.leaf (_ :: (_ ++ l))
    unfold WFrom
    rw [if_pos (by simp)]
    refine ⟨q, h1, hb0, hb1, ?_⟩
    show WFrom (s.leaf - 1) ((if s.leaf - 1 = 0 then [⟨4, s.at_, Hd.zero, 0⟩] else []) ++ l)
    split
    · exact WFrom.skip (by simp) (by simp) hl
    · exact hl
  · rename_i q
    have hz : s.leaf = 0 := by omega
    rw [if_neg q] at hl he
    split
    · rename_i q1
      rw [if_pos q1] at hl he
      split
      · rename_i q2
        rw [if_pos q2] at hl he
        have hh := headRes_len (strOfNums (s.came ++ [b]))
        rw [hz] at hl ⊢
        exact mBegin_wf most _ _ _ hh.1 hh.2 l hl
      · rename_i q2
        rw [if_neg q2] at hl he
        split
        · rename_i q3; rw [if_pos q3] at hl; exact hl
        · rename_i q3; rw [if_neg q3] at hl; exact hl
    · rename_i q1; rw [if_neg q1] at hl; exact hl
theorem mPush_wf (most : Nat) (s : MS) (b : Int) (h : MInv s) (hb0 : 0 ≤ b) (hb1 : b ≤ 255) (l : List Ev) (he : (mPush most s b).1 = 0) (hl : WFrom (mPush most s b).2.2.leaf l) : WFrom s.leaf ((mPush most s b).2.1 ++ l) := by
  unfold mPush at hl he ⊢
  split
  · rename_i q; rw [if_pos q] at he; simp at he
  · rename_i q
    rw [if_neg q] at hl he
    split
    · rename_i q2
      rw [if_pos q2] at hl he
      split
      · rename_i q3
        rw [if_pos q3] at hl
        show WFrom s.leaf (((mStep most s b).2.1 ++ _) ++ l)
        rw [List.append_assoc]
        exact mStep_wf most s b h hb0 hb1 _ q2 (WFrom.exits _ hl _)
      · rename_i q3
        rw [if_neg q3] at hl
        exact mStep_wf most s b h hb0 hb1 _ q2 hl
    · rename_i q2; rw [if_neg q2] at he; exact absurd he q2
theorem mGo_wf (most : Nat) : ∀ (bs : List Int) (s : MS) (out : List Ev) (i : Int), MInv s → (∀ b ∈ bs, 0 ≤ b ∧ b ≤ 255) → ∃ rest, (mGo most bs s out i).1 = out ++ rest ∧ WFrom s.leaf rest := by
  intro bs
  induction bs with
  | nil => intro s out i _ _; exact ⟨[], by simp [mGo], trivial⟩
  | cons b bs ih =>
    intro s out i h hb
    simp only [mGo]
    split
    · rename_i he
      have hi := mPush_inv most s b h he
      obtain ⟨rest, h1, h2⟩ := ih (mPush most s b).2.2 (out ++ (mPush most s b).2.1) (i + 1) hi.1 (fun x hx => hb x (by simp [hx]))
      have hb' := hb b (by simp)
      exact ⟨_, by rw [h1, List.append_assoc], mPush_wf most s b h hb'.1 hb'.2 rest he h2⟩
    · exact ⟨[], by simp, trivial⟩
theorem bytesOf_range (s : ByteArray) : ∀ b ∈ bytesOf s, 0 ≤ b ∧ b ≤ 255 := by
  intro b hb
  unfold bytesOf at hb
  obtain ⟨x, _, rfl⟩ := List.mem_map.1 hb
  have := x.toNat_lt
  omega
theorem MInv.new : MInv MS.new := ⟨Int.le_refl _, by decide, by decide⟩
theorem mWhole_wf (b : ByteArray) (depth : Int) : WFrom 0 (mWhole b depth).1 := by
  obtain ⟨rest, h1, h2⟩ := mGo_wf (min (max depth 0) 64).toNat (bytesOf b) MS.new [] 0 MInv.new (bytesOf_range b)
  unfold mWhole
  rw [h1]
  exact h2
theorem vw_any (w : World) (b : ByteArray) (depth : Int) (hb : b.size ≤ 900000) : Calls Try.prog 34 #[.string b, .int .i64 depth] w (VPost w (vWhole b depth)) := vwhole_any w b depth hb (mWhole_wf b depth)
end Go.Proofs.Ytkabmmpccfeffaa
