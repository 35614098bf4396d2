/- Layer 8 (stack): by contracts. -/
import Derived.Test.YtkabmmpccfeffaaProg
import Derived.Test.YtkabmmpccfeffaaFr
import Derived.Deep.QuietTactic
import Derived.BigQuiet
import Derived.BigRegion
namespace Go.Proofs.Ytkabmmpccfeffaa
open Go.RowKit
set_option linter.unusedVariables false
set_option linter.unusedSimpArgs false

/-- A Stack lies at block g: ls is what is left of the open elements, the innermost first. -/
def IsStack (w : World) (B g most : Nat) (ls : List Int) : Prop :=
  ∃ cs : Array Value, w.heap[g]? = some (.cells cs 224 (0, 0)) ∧ B ≤ g ∧ cs.size = 66 ∧ (∀ (i : Nat) (x : Int), ls.reverse[i]? = some x → cs[i]? = some (Value.int .i64 x)) ∧
    cs[64]? = some (.int .i64 ls.length) ∧ cs[65]? = some (.int .i64 most) ∧ ls.length ≤ most ∧ most ≤ 64 ∧ ∀ x ∈ ls, 0 ≤ x ∧ x ≤ 2305843009213693951

section
variable {w w' : World} {B g most : Nat} {ls : List Int}
theorem IsStack.depth (h : IsStack w B g most ls) : w.cell? ⟨g, 64, none⟩ = some (.int .i64 ls.length) := by
  obtain ⟨cs, hb, _, _, _, h1, _⟩ := h
  rw [blk_cell hb, h1]
theorem IsStack.most_ (h : IsStack w B g most ls) : w.cell? ⟨g, 65, none⟩ = some (.int .i64 most) := by
  obtain ⟨cs, hb, _, _, _, _, h1, _⟩ := h
  rw [blk_cell hb, h1]
theorem IsStack.top {x : Int} {rest : List Int} (h : IsStack w B g most (x :: rest)) : w.cell? ⟨g, rest.length, none⟩ = some (.int .i64 x) := by
  obtain ⟨cs, hb, _, _, h1, _⟩ := h
  rw [blk_cell hb, h1 rest.length x]
  rw [List.reverse_cons, List.getElem?_append_right (by simp)]
  simp
theorem IsStack.some_ (h : IsStack w B g most ls) {k : Nat} (hk : k < 66) : ∃ v, w.cell? ⟨g, k, none⟩ = some v := by
  obtain ⟨cs, hb, _, hs, _⟩ := h
  exact ⟨cs[k]'(by omega), by rw [blk_cell hb, Array.getElem?_eq_getElem]⟩
theorem IsStack.frozen (h : IsStack w B g most ls) (k : Nat) : w.frozen? ⟨g, k, none⟩ = false := by
  obtain ⟨cs, hb, _⟩ := h
  exact blk_frozen hb k
theorem IsStack.lt (h : IsStack w B g most ls) : g < w.heap.size := by
  obtain ⟨cs, hb, _⟩ := h
  exact blk_lt hb
theorem IsStack.keep {S : Nat → Prop} (h : IsStack w B g most ls) (hk : Fr S w w') (hn : ¬ S g) : IsStack w' B g most ls := by
  obtain ⟨cs, hb, r⟩ := h
  exact ⟨cs, hk.blk hb hn, r⟩
theorem IsStack.below (h : IsStack w B g most ls) (hk : Below w.heap.size w w') : IsStack w' B g most ls := by
  obtain ⟨cs, hb, r⟩ := h
  exact ⟨cs, (hk.block g (blk_lt hb)).trans hb, r⟩
theorem IsStack.take {x : Int} {rest : List Int} (h : IsStack w B g most (x :: rest)) {y : Int} (hy : 0 ≤ y) (hy2 : y ≤ 2305843009213693951) : IsStack (w.setCell ⟨g, rest.length, none⟩ (.int .i64 y)) B g most (y :: rest) := by
  obtain ⟨cs, hb, hg, hs, h1, h2, h3, h4, h5, h6⟩ := h
  have hr : rest.length < 64 := by simp at h4; omega
  refine ⟨_, blk_set hb _ _, hg, by simpa using hs, fun i z hz => ?_, ?_, ?_, by simpa using h4, h5, ?_⟩
  · rw [Array.getElem?_setIfInBounds]
    by_cases hi : rest.length = i
    · subst hi
      rw [List.reverse_cons, List.getElem?_append_right (by simp)] at hz
      simp at hz
      rw [if_pos rfl, if_pos (by omega), hz]
    · rw [if_neg hi]
      refine h1 i z ?_
      rw [List.reverse_cons] at hz ⊢
      by_cases hi2 : i < rest.length
      · rw [List.getElem?_append_left (by simpa using hi2)] at hz ⊢; exact hz
      · rw [List.getElem?_eq_none (by simp; omega)] at hz; cases hz
  · rw [Array.getElem?_setIfInBounds, if_neg (by omega)]; simpa using h2
  · rw [Array.getElem?_setIfInBounds, if_neg (by omega)]; exact h3
  · intro z hz
    rcases List.mem_cons.1 hz with rfl | hz
    · exact ⟨hy, hy2⟩
    · exact h6 z (List.mem_cons_of_mem _ hz)
theorem IsStack.leave {x : Int} {rest : List Int} (h : IsStack w B g most (x :: rest)) : IsStack (w.setCell ⟨g, 64, none⟩ (.int .i64 rest.length)) B g most rest := by
  obtain ⟨cs, hb, hg, hs, h1, h2, h3, h4, h5, h6⟩ := h
  have hr : rest.length < 64 := by simp at h4; omega
  refine ⟨_, blk_set hb _ _, hg, by simpa using hs, fun i z hz => ?_, ?_, ?_, by simp at h4; omega, h5, fun z hz => h6 z (List.mem_cons_of_mem _ hz)⟩
  · have hi : i < rest.length := by have := (List.getElem?_eq_some_iff.1 hz).1; simpa using this
    rw [Array.getElem?_setIfInBounds, if_neg (by omega)]
    refine h1 i z ?_
    rw [List.reverse_cons, List.getElem?_append_left (by simpa using hi)]
    exact hz
  · rw [Array.getElem?_setIfInBounds, if_pos rfl, if_pos (by omega)]
  · rw [Array.getElem?_setIfInBounds, if_neg (by omega)]; exact h3
theorem IsStack.enter (h : IsStack w B g most ls) {y : Int} (hy : 0 ≤ y) (hy2 : y ≤ 2305843009213693951) (hl : ls.length < most) :
    IsStack ((w.setCell ⟨g, ls.length, none⟩ (.int .i64 y)).setCell ⟨g, 64, none⟩ (.int .i64 ((ls.length : Int) + 1))) B g most (y :: ls) := by
  obtain ⟨cs, hb, hg, hs, h1, h2, h3, h4, h5, h6⟩ := h
  refine ⟨_, blk_set (blk_set hb _ _) _ _, hg, by simpa using hs, fun i z hz => ?_, ?_, ?_, by simp; omega, h5, ?_⟩
  · have hi : i < ls.length + 1 := by have := (List.getElem?_eq_some_iff.1 hz).1; simpa using this
    rw [Array.getElem?_setIfInBounds, if_neg (by omega), Array.getElem?_setIfInBounds]
    rw [List.reverse_cons] at hz
    by_cases hi2 : ls.length = i
    · subst hi2
      rw [List.getElem?_append_right (by simp)] at hz
      simp at hz
      rw [if_pos rfl, if_pos (by omega), hz]
    · rw [if_neg hi2]
      rw [List.getElem?_append_left (by simp; omega)] at hz
      exact h1 i z hz
  · rw [Array.getElem?_setIfInBounds, if_pos rfl, if_pos (by simp; omega)]
    simp
  · rw [Array.getElem?_setIfInBounds, if_neg (by omega), Array.getElem?_setIfInBounds, if_neg (by omega)]; exact h3
  · intro z hz
    rcases List.mem_cons.1 hz with rfl | hz
    · exact ⟨hy, hy2⟩
    · exact h6 z hz
theorem IsStack.ge (h : IsStack w B g most ls) : B ≤ g := by
  obtain ⟨cs, hb, hg, _⟩ := h
  exact hg
end

set_option maxHeartbeats 400000 in
theorem sdepth_any {w : World} {B g most : Nat} {ls : List Int} (h : IsStack w B g most ls) :
    Calls Try.prog 112 #[.pointer (some ⟨g, 0, none⟩)] w fun e w' => e = .returned (.int .i64 ls.length) ∧ w' = w := by
  have h1 := h.depth
  clear h
  go_enter Try.func112, Try.ntmps112
  go_wp2_with fail
  go_ret
  exact ⟨rfl, rfl⟩

set_option maxHeartbeats 400000 in
theorem sleft_none {w : World} {B g most : Nat} (h : IsStack w B g most []) :
    Calls Try.prog 178 #[.pointer (some ⟨g, 0, none⟩)] w fun e w' => e = .returned (.int .i64 (-1)) ∧ ∃ n, w' = w.drewN n := by
  have h1 := h.depth
  clear h
  go_enter Try.func178, Try.ntmps178
  go_wp2_with fail
  go_ret
  exact ⟨rfl, 0, rfl⟩

set_option maxHeartbeats 400000 in
theorem sleft_some {w : World} {B g most : Nat} {x : Int} {rest : List Int} (h : IsStack w B g most (x :: rest)) :
    Calls Try.prog 178 #[.pointer (some ⟨g, 0, none⟩)] w fun e w' => e = .returned (.int .i64 x) ∧ ∃ n, w' = w.drewN n := by
  have h1 := h.depth
  have h2 := h.top
  have hr : rest.length < 64 := by obtain ⟨_, _, _, _, _, _, _, h4, h5, _⟩ := h; simp at h4; omega
  have b1 : IntKind.i64.wrap ((rest.length : Int) + 1 - 1) = rest.length := IntWalk.i64_in _ (by omega) |>.trans (by omega)
  have b2 : (0 : Int) ≤ rest.length := by omega
  have b3 : (rest.length : Int) < 64 := by omega
  have b4 : ((rest.length : Int) + 1 == 0) = false := by simp; omega
  have b5 : IntKind.i64.wrap (rest.length : Int) = rest.length := IntWalk.i64_in _ (by omega)
  clear h
  simp at h1
  go_enter Try.func178, Try.ntmps178
  go_wp2_with fail
  go_quiet (fail)
  go_wp2
  go_ret
  exact ⟨rfl, _, rfl⟩

set_option maxHeartbeats 400000 in
theorem stake_none {w : World} {B g most : Nat} (h : IsStack w B g most []) :
    Calls Try.prog 150 #[.pointer (some ⟨g, 0, none⟩)] w fun e w' => e = .returned (.int .i64 0) ∧ ∃ n, w' = w.drewN n := by
  have h1 := h.depth
  clear h
  go_enter Try.func150, Try.ntmps150
  go_wp2_with fail
  go_ret
  exact ⟨rfl, 0, rfl⟩

set_option maxHeartbeats 400000 in
theorem stake_fit {w : World} {B g most : Nat} {rest : List Int} (h : IsStack w B g most (0 :: rest)) :
    Calls Try.prog 150 #[.pointer (some ⟨g, 0, none⟩)] w fun e w' => e = .returned (.int .i64 5) ∧ ∃ n, w' = w.drewN n := by
  have h1 := h.depth
  have h2 := h.top
  have hr : rest.length < 64 := by obtain ⟨_, _, _, _, _, _, _, h4, h5, _⟩ := h; simp at h4; omega
  have b1 : IntKind.i64.wrap ((rest.length : Int) + 1 - 1) = rest.length := IntWalk.i64_in _ (by omega) |>.trans (by omega)
  have b2 : (0 : Int) ≤ rest.length := by omega
  have b3 : (rest.length : Int) < 64 := by omega
  have b4 : ((rest.length : Int) + 1 == 0) = false := by simp; omega
  have b5 : IntKind.i64.wrap (rest.length : Int) = rest.length := IntWalk.i64_in _ (by omega)
  clear h
  simp at h1
  go_enter Try.func150, Try.ntmps150
  go_wp2_with fail
  go_quiet (fail)
  go_wp2
  go_ret
  exact ⟨rfl, _, rfl⟩

set_option maxHeartbeats 1000000 in
theorem stake_ok {w : World} {B g most : Nat} {x : Int} {rest : List Int} (h : IsStack w B g most (x :: rest)) (hx : 0 < x) :
    Calls Try.prog 150 #[.pointer (some ⟨g, 0, none⟩)] w fun e w' => e = .returned (.int .i64 0) ∧ IsStack w' B g most ((x - 1) :: rest) ∧ Fr (· = g) w w' := by
  have h1 := h.depth
  have h2 := h.top
  have hr : rest.length < 64 := by obtain ⟨_, _, _, _, _, _, _, h4, h5, _⟩ := h; simp at h4; omega
  have b1 : IntKind.i64.wrap ((rest.length : Int) + 1 - 1) = rest.length := IntWalk.i64_in _ (by omega) |>.trans (by omega)
  have b2 : (0 : Int) ≤ rest.length := by omega
  have b3 : (rest.length : Int) < 64 := by omega
  have b4 : ((rest.length : Int) + 1 == 0) = false := by simp; omega
  have b5 : IntKind.i64.wrap (rest.length : Int) = rest.length := IntWalk.i64_in _ (by omega)
  have hf := h.frozen rest.length
  have hx2 : x ≤ 2305843009213693951 := by obtain ⟨_, _, _, _, _, _, _, _, _, h6⟩ := h; exact (h6 x (by simp)).2
  have b6 : (x == 0) = false := by simp; omega
  have b7 : IntKind.i64.wrap (x - 1) = x - 1 := IntWalk.i64_in _ (by omega)
  have HH := Lib.hid h
  clear h
  simp at h1
  go_enter Try.func150, Try.ntmps150
  go_wp2_with fail
  go_quiet (fail)
  go_wp2_with fail
  go_region
  go_wp2
  go_ret
  refine ⟨rfl, ?_, ?_⟩
  · refine IsStack.take (x := x) ?_ (by omega) (by omega)
    exact HH.out
  · repeat (first | exact Fr.refl _ _ | refine Fr.drewN ?_ _ | refine Fr.drew ?_ | refine Fr.setCell ?_ (fun _ => (rfl : g = g)) _)

set_option maxHeartbeats 400000 in
theorem sleave_none {w : World} {B g most : Nat} (h : IsStack w B g most []) :
    Calls Try.prog 111 #[.pointer (some ⟨g, 0, none⟩)] w fun e w' => e = .returned (.bool false) ∧ ∃ n, w' = w.drewN n := by
  have h1 := h.depth
  have b4 : ((0 : Int) == 0) = true := rfl
  clear h
  simp at h1
  go_enter Try.func111, Try.ntmps111
  go_wp2_with fail
  go_quiet (fail)
  go_wp2
  go_ret
  exact ⟨rfl, _, rfl⟩

set_option maxHeartbeats 400000 in
theorem sleave_no {w : World} {B g most : Nat} {x : Int} {rest : List Int} (h : IsStack w B g most (x :: rest)) (hx : 0 < x) :
    Calls Try.prog 111 #[.pointer (some ⟨g, 0, none⟩)] w fun e w' => e = .returned (.bool false) ∧ ∃ n, w' = w.drewN n := by
  have h1 := h.depth
  have h2 := h.top
  have hr : rest.length < 64 := by obtain ⟨_, _, _, _, _, _, _, h4, h5, _⟩ := h; simp at h4; omega
  have b1 : IntKind.i64.wrap ((rest.length : Int) + 1 - 1) = rest.length := IntWalk.i64_in _ (by omega) |>.trans (by omega)
  have b2 : (0 : Int) ≤ rest.length := by omega
  have b3 : (rest.length : Int) < 64 := by omega
  have b4 : ((rest.length : Int) + 1 == 0) = false := by simp; omega
  have b5 : IntKind.i64.wrap (rest.length : Int) = rest.length := IntWalk.i64_in _ (by omega)
  clear h
  simp at h1
  go_enter Try.func111, Try.ntmps111
  go_wp2_with fail
  go_quiet (fail)
  go_wp2
  go_ret
  exact ⟨rfl, _, rfl⟩

set_option maxHeartbeats 400000 in
theorem sleave_yes {w : World} {B g most : Nat} {rest : List Int} (h : IsStack w B g most (0 :: rest)) :
    Calls Try.prog 111 #[.pointer (some ⟨g, 0, none⟩)] w fun e w' => e = .returned (.bool true) ∧ IsStack w' B g most rest ∧ Fr (· = g) w w' := by
  have h1 := h.depth
  have h2 := h.top
  have hr : rest.length < 64 := by obtain ⟨_, _, _, _, _, _, _, h4, h5, _⟩ := h; simp at h4; omega
  have b1 : IntKind.i64.wrap ((rest.length : Int) + 1 - 1) = rest.length := IntWalk.i64_in _ (by omega) |>.trans (by omega)
  have b2 : (0 : Int) ≤ rest.length := by omega
  have b3 : (rest.length : Int) < 64 := by omega
  have b4 : ((rest.length : Int) + 1 == 0) = false := by simp; omega
  have b5 : IntKind.i64.wrap (rest.length : Int) = rest.length := IntWalk.i64_in _ (by omega)
  have hf := h.frozen 64
  have b6 : decide ((0 : Int) < 0) = false := rfl
  have HH := Lib.hid h
  clear h
  simp at h1
  go_enter Try.func111, Try.ntmps111
  go_wp2_with fail
  go_quiet (fail)
  go_wp2
  go_ret
  refine ⟨rfl, ?_, ?_⟩
  · refine IsStack.leave (x := 0) ?_
    exact HH.out
  · repeat (first | exact Fr.refl _ _ | refine Fr.drewN ?_ _ | refine Fr.drew ?_ | refine Fr.setCell ?_ (fun _ => (rfl : g = g)) _)

set_option maxHeartbeats 800000 in
theorem senter_fit {w : World} {B g most : Nat} {x n : Int} {rest : List Int} (h : IsStack w B g most (x :: rest)) (hn : 0 ≤ n) (hx : x < n) :
    Calls Try.prog 179 #[.pointer (some ⟨g, 0, none⟩), .int .i64 n] w fun e w' => e = .returned (.int .i64 5) ∧ ∃ n, w' = w.drewN n := by
  have h1 := h.depth
  have h2 := h.top
  have hr : rest.length < 64 := by obtain ⟨_, _, _, _, _, _, _, h4, h5, _⟩ := h; simp at h4; omega
  have b1 : IntKind.i64.wrap ((rest.length : Int) + 1 - 1) = rest.length := IntWalk.i64_in _ (by omega) |>.trans (by omega)
  have b2 : (0 : Int) ≤ rest.length := by omega
  have b3 : (rest.length : Int) < 64 := by omega
  have b4 : ((rest.length : Int) + 1 == 0) = false := by simp; omega
  have b5 : IntKind.i64.wrap (rest.length : Int) = rest.length := IntWalk.i64_in _ (by omega)
  clear h
  simp at h1
  go_enter Try.func179, Try.ntmps179
  go_wp2_with fail
  go_quiet (fail)
  go_wp2
  go_ret
  exact ⟨rfl, _, rfl⟩

set_option maxHeartbeats 800000 in
theorem senter_deep0 {w : World} {B g : Nat} {n : Int} (h : IsStack w B g 0 []) (hn : 0 ≤ n) :
    Calls Try.prog 179 #[.pointer (some ⟨g, 0, none⟩), .int .i64 n] w fun e w' => e = .returned (.int .i64 10) ∧ ∃ n, w' = w.drewN n := by
  have h1 := h.depth
  have h3 := h.most_
  clear h
  simp at h1 h3
  go_enter Try.func179, Try.ntmps179
  go_wp2_with fail
  go_quiet (fail)
  go_wp2_with fail
  go_quiet (fail)
  go_wp2
  go_ret
  exact ⟨rfl, _, World.drewN_drewN _ _ _⟩

set_option maxHeartbeats 800000 in
theorem senter_deep {w : World} {B g most : Nat} {x n : Int} {rest : List Int} (h : IsStack w B g most (x :: rest)) (hn : 0 ≤ n) (hx : n ≤ x) (hm : rest.length + 1 = most) :
    Calls Try.prog 179 #[.pointer (some ⟨g, 0, none⟩), .int .i64 n] w fun e w' => e = .returned (.int .i64 10) ∧ ∃ n, w' = w.drewN n := by
  have h1 := h.depth
  have h2 := h.top
  have hr : rest.length < 64 := by obtain ⟨_, _, _, _, _, _, _, h4, h5, _⟩ := h; simp at h4; omega
  have b1 : IntKind.i64.wrap ((rest.length : Int) + 1 - 1) = rest.length := IntWalk.i64_in _ (by omega) |>.trans (by omega)
  have b2 : (0 : Int) ≤ rest.length := by omega
  have b3 : (rest.length : Int) < 64 := by omega
  have b4 : ((rest.length : Int) + 1 == 0) = false := by simp; omega
  have b5 : IntKind.i64.wrap (rest.length : Int) = rest.length := IntWalk.i64_in _ (by omega)
  have h3 := h.most_
  have c1 : ((rest.length : Int) + 1 == (most : Int)) = true := by simp; omega
  clear h hm
  simp at h1 h3
  go_enter Try.func179, Try.ntmps179
  go_wp2_with fail
  go_quiet (fail)
  go_wp2_with fail
  go_quiet (fail)
  go_wp2
  go_ret
  exact ⟨rfl, _, World.drewN_drewN _ _ _⟩

set_option maxHeartbeats 800000 in
theorem senter_first {w : World} {B g most : Nat} {n : Int} (h : IsStack w B g most []) (hn : 0 ≤ n) (hn2 : n ≤ 2305843009213693951) (hm : 0 < most) :
    Calls Try.prog 179 #[.pointer (some ⟨g, 0, none⟩), .int .i64 n] w fun e w' => e = .returned (.int .i64 0) ∧ IsStack w' B g most [n] ∧ Fr (· = g) w w' := by
  have h1 := h.depth
  have h3 := h.most_
  have hf := h.frozen 0
  obtain ⟨v0, hv0⟩ := h.some_ (k := 0) (by omega)
  have hf2 := h.frozen 64
  have hgl := h.lt
  have c1 : ((0 : Int) == (most : Int)) = false := by simp; omega
  have HH := Lib.hid h
  have HM : Hid (([] : List Int).length < most) := Lib.hid (by simpa using hm)
  clear h hm
  simp at h1 h3
  go_enter Try.func179, Try.ntmps179
  go_wp2_with fail
  go_quiet (fail)
  go_wp2_with fail
  go_quiet (fail)
  go_wp2_with fail
  go_region
  go_wp2
  go_ret
  refine ⟨rfl, ?_, ?_⟩
  · have h := IsStack.enter HH.out hn hn2 HM.out
    exact h
  · repeat (first | exact Fr.refl _ _ | refine Fr.drewN ?_ _ | refine Fr.drew ?_ | refine Fr.setCell ?_ (fun _ => (rfl : g = g)) _)

set_option maxHeartbeats 800000 in
theorem senter_more {w : World} {B g most : Nat} {x n : Int} {rest : List Int} (h : IsStack w B g most (x :: rest)) (hn : 0 ≤ n) (hx : n ≤ x) (hm : rest.length + 1 < most) :
    Calls Try.prog 179 #[.pointer (some ⟨g, 0, none⟩), .int .i64 n] w fun e w' => e = .returned (.int .i64 0) ∧ IsStack w' B g most (n :: (x - n) :: rest) ∧ Fr (· = g) w w' := by
  have h1 := h.depth
  have h2 := h.top
  have hr : rest.length < 64 := by obtain ⟨_, _, _, _, _, _, _, h4, h5, _⟩ := h; simp at h4; omega
  have b1 : IntKind.i64.wrap ((rest.length : Int) + 1 - 1) = rest.length := IntWalk.i64_in _ (by omega) |>.trans (by omega)
  have b2 : (0 : Int) ≤ rest.length := by omega
  have b3 : (rest.length : Int) < 64 := by omega
  have b4 : ((rest.length : Int) + 1 == 0) = false := by simp; omega
  have b5 : IntKind.i64.wrap (rest.length : Int) = rest.length := IntWalk.i64_in _ (by omega)
  have h3 := h.most_
  have hf := h.frozen rest.length
  have hf1 := h.frozen (rest.length + 1)
  have hm64' : most ≤ 64 := by obtain ⟨_, _, _, _, _, _, _, _, h5, _⟩ := h; exact h5
  obtain ⟨v1, hv1⟩ := h.some_ (k := rest.length + 1) (by omega)
  have hf2 := h.frozen 64
  have hgl := h.lt
  have hm64 : most ≤ 64 := by obtain ⟨_, _, _, _, _, _, _, _, h5, _⟩ := h; exact h5
  have hx2 : x ≤ 2305843009213693951 := by obtain ⟨_, _, _, _, _, _, _, _, _, h6⟩ := h; exact (h6 x (by simp)).2
  have b7 : IntKind.i64.wrap (x - n) = x - n := IntWalk.i64_in _ (by omega)
  have c1 : ((rest.length : Int) + 1 == (most : Int)) = false := by simp; omega
  have c2 : (0 : Int) ≤ (rest.length : Int) + 1 := by omega
  have c3 : (rest.length : Int) + 1 < 64 := by omega
  have c4 : ((rest.length : Int) + 1).toNat = rest.length + 1 := by omega
  have c5 : IntKind.i64.wrap ((rest.length : Int) + 1 + 1) = (rest.length : Int) + 1 + 1 := IntWalk.i64_in _ (by omega)
  have HH := Lib.hid h
  clear h
  simp at h1 h3
  go_enter Try.func179, Try.ntmps179
  go_wp2_with fail
  go_quiet (fail)
  go_wp2_with fail
  go_quiet (fail)
  go_wp2_with fail
  go_region
  go_wp2_with fail
  go_region
  go_wp2
  go_ret
  refine ⟨rfl, ?_, ?_⟩
  · have h := IsStack.enter (IsStack.take HH.out (y := x - n) (by omega) (by omega)) hn (by omega) hm
    exact h
  · repeat (first | exact Fr.refl _ _ | refine Fr.drewN ?_ _ | refine Fr.drew ?_ | refine Fr.setCell ?_ (fun _ => (rfl : g = g)) _)

theorem zero_stack : Try.zeroCells224.size = 66 ∧ Try.zeroCells224[64]? = some (.int .i64 0) := by constructor <;> kernel_rfl
theorem snew_fin (w : World) (m k : Nat) (hm : m ≤ 64) (hk : k = m) :
    Ending.returned (.pointer (some ⟨w.heap.size, 0, none⟩)) = .returned (.pointer (some ⟨w.heap.size, 0, none⟩)) ∧
      IsStack (w.alloc (.cells (Try.zeroCells224.setIfInBounds 65 (.int .i64 m)) 224)) w.heap.size w.heap.size k [] ∧
      Below w.heap.size w (w.alloc (.cells (Try.zeroCells224.setIfInBounds 65 (.int .i64 m)) 224)) := by
  subst hk
  obtain ⟨z1, z2⟩ := zero_stack
  refine ⟨rfl, ⟨_, heap_alloc_new w _, Nat.le_refl _, by simp [z1], fun i x h => by simp at h, ?_, ?_, Nat.zero_le _, hm, by simp⟩, (Below.refl _ _).alloc (Nat.le_refl _) _⟩
  · rw [Array.getElem?_setIfInBounds, if_neg (by omega)]; exact z2
  · rw [Array.getElem?_setIfInBounds, if_pos rfl, if_pos (by omega)]

set_option maxHeartbeats 400000 in
theorem snew_any (d : Int) (w : World) :
    Calls Try.prog 108 #[.int .i64 d] w fun e w' => e = .returned (.pointer (some ⟨w.heap.size, 0, none⟩)) ∧ IsStack w' w.heap.size w.heap.size (min (max d 0) 64).toNat [] ∧ Below w.heap.size w w' := by
  go_enter Try.func108, Try.ntmps108
  go_wp2_with fail
  · go_ret
    exact snew_fin w 0 _ (by omega) (by omega)
  · go_ret
    exact snew_fin w 64 _ (by omega) (by omega)
  · go_ret
    obtain ⟨m, rfl⟩ := Int.eq_ofNat_of_zero_le (show 0 ≤ d by assumption)
    exact snew_fin w m _ (by omega) (by omega)
end Go.Proofs.Ytkabmmpccfeffaa
