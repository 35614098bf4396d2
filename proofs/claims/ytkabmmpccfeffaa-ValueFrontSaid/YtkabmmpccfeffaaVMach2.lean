/- Layer 9 (event.Machine): New, Done. -/
import Derived.Test.YtkabmmpccfeffaaVMach
import Derived.Outline
namespace Go.Proofs.Ytkabmmpccfeffaa
open Go.RowKit
set_option linter.unusedVariables false
set_option linter.unusedSimpArgs false

def mDone (begun : Bool) (lefts : List Int) (leaf : Int) (cm : List Int) : Bool := begun && lefts.isEmpty && (leaf == 0) && cm.isEmpty

section
variable {w : World} {B gm go gh : Nat} {vr vm : Value} {most : Nat} {lefts : List Int} {leaf : Int} {cm cr : List Int} {begun : Bool} {at_ : Int}
set_option maxRecDepth 100000 in
set_option maxHeartbeats 1000000 in
theorem mdone_any (h : IsM w B gm go gh vr vm most lefts leaf cm cr begun at_) :
    Calls Try.prog 73 #[.pointer (some ⟨gm, 0, none⟩)] w fun e w' => e = .returned (.bool (mDone begun lefts leaf cm)) ∧ ∃ n, w' = w.drewN n := by
  have h0 := blk_cell h.blk 0
  have h3 := blk_cell h.blk 3
  have h2 := blk_cell h.blk 2
  have h5 := blk_cell h.blk 5
  obtain ⟨A, c, hv⟩ := own_slice h.row
  subst hv
  have sd := sdepth_any h.stk
  simp only [List.getElem?_toArray, List.getElem?_cons_zero, List.getElem?_cons_succ] at h0 h2 h3 h5
  have SD := Lib.hid sd
  clear sd h
  cases begun with
  | false =>
    go_enter Try.func73, Try.ntmps73
    go_wp2_with fail
    go_ret
    exact ⟨rfl, 0, rfl⟩
  | true =>
    cases lefts with
    | cons x r =>
      have q1 : (((x :: r).length : Int) == 0) = false := by simp; omega
      go_enter Try.func73, Try.ntmps73
      go_wp2_with fail
      refine SD.out.mono ?_
      rintro e w1 ⟨rfl, rfl⟩
      go_wp2_with fail
      go_ret
      exact ⟨rfl, 0, rfl⟩
    | nil =>
      by_cases hl : leaf = 0
      · subst hl
        cases cm with
        | nil =>
          go_enter Try.func73, Try.ntmps73
          go_wp2_with fail
          refine SD.out.mono ?_
          rintro e w1 ⟨rfl, rfl⟩
          go_wp2_with fail
          go_ret
          exact ⟨rfl, 0, rfl⟩
        | cons y l =>
          have q1 : (((y :: l).length : Int) == 0) = false := by simp; omega
          go_enter Try.func73, Try.ntmps73
          go_wp2_with fail
          refine SD.out.mono ?_
          rintro e w1 ⟨rfl, rfl⟩
          go_wp2_with fail
          go_ret
          exact ⟨rfl, 0, rfl⟩
      · have q1 : (leaf == 0) = false := beq_eq_false_iff_ne.2 hl
        have e1 : mDone true [] leaf cm = false := by simp [mDone, hl]
        have E1 := Lib.hid e1
        clear hl e1
        go_enter Try.func73, Try.ntmps73
        go_wp2_with fail
        refine SD.out.mono ?_
        rintro e w1 ⟨rfl, rfl⟩
        go_wp2_with fail
        go_ret
        exact ⟨by rw [E1.out]; rfl, 0, rfl⟩
end
set_option maxRecDepth 100000 in
set_option maxHeartbeats 1000000 in
theorem rdnew_any (w : World) :
    Calls Try.prog 109 #[] w fun e w' => e = .returned (.pointer (some ⟨w.heap.size, 0, none⟩)) ∧ w' = w.alloc (.cells #[.slice none 0 0, .int .i64 0] 226) := by
  go_enter Try.func109, Try.ntmps109
  go_wp2_with fail
  go_ret
  exact ⟨rfl, rfl⟩
/-- A new Machine. -/
def MNew (d : Int) (w : World) (e : Ending) (w' : World) : Prop :=
  ∃ gm go gh vr vm, e = .returned (.pointer (some ⟨gm, 0, none⟩)) ∧ IsM w' w.heap.size gm go gh vr vm (min (max d 0) 64).toNat [] 0 [] [] false 0 ∧ Below w.heap.size w w'
set_option maxRecDepth 100000 in
set_option maxHeartbeats 1000000 in
theorem mnew_any (d : Int) (w : World) : Calls Try.prog 71 #[.int .i64 d] w (MNew d w) := by
  go_enter Try.func71, Try.ntmps71
  go_wp2_with fail
  refine (snew_any d _).mono ?_
  rintro e w1 ⟨rfl, hs, hb⟩
  have HS : Hid (IsStack w1 w.heap.size w.heap.size (min (max d 0) 64).toNat []) := hs
  have HB := Lib.hid hb
  have hz := hb.size
  clear hs hb
  go_wp2_with fail
  refine (rdnew_any _).mono ?_
  rintro e w2 ⟨rfl, rfl⟩
  go_wp2_with fail
  go_ret
  have hst : IsStack w1 w.heap.size w.heap.size (min (max d 0) 64).toNat [] := HS.out
  refine ⟨_, _, _, .slice none 0 0, .slice none 0 0, rfl, ⟨heap_alloc2_new w1 _ _, Nat.le_succ_of_le hz, ?_, ⟨heap_alloc2_old w1 _ _, hz, World.ownsRow_nil _ _ _ _⟩, World.ownsRow_nil _ _ _ _, .inl rfl⟩, (HB.out.alloc hz _).alloc (by simp; omega) _⟩
  exact hst.below (((Below.refl w1.heap.size w1).alloc (Nat.le_refl _) _).alloc (by simp) _)
end Go.Proofs.Ytkabmmpccfeffaa
