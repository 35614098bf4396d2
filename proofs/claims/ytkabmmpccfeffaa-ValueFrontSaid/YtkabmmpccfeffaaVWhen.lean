/- Layer 13 (when): Start, number, Days, by contracts. -/
import Derived.Test.YtkabmmpccfeffaaVNum
import Derived.Test.YtkabmmpccfeffaaVWhole2
namespace Go.Proofs.Ytkabmmpccfeffaa
open Go.RowKit
set_option linter.unusedVariables false
set_option linter.unusedSimpArgs false

def whnZ : Array Value := #[.string ⟨#[]⟩, .int .i64 0, .bool false]
def whnC (date : ByteArray) (left : Int) (utc : Bool) : Array Value := #[.string date, .int .i64 left, .bool utc]
theorem info_whn : (Try.prog.info? 214).map (·.size) = some 3 := by kernel_rfl
def whnStart (tag n : Int) : Option (Array Value) := if (tag == 23) = true then (if (n == 13) = true then (some (whnC ⟨#[]⟩ n true)) else (none)) else (if (tag == 24) = true then (if (n == 15) = true then (some (whnC ⟨#[]⟩ n false)) else (none)) else (none))

set_option maxRecDepth 100000 in
set_option maxHeartbeats 4000000 in
theorem whnStart_any (w : World) (tag n : Int) : Calls Try.prog 146 #[.int .i64 tag, .int .i64 n] w (StPost w whnZ (whnStart tag n)) := by
  cases t1 : (tag == 23) with
  | true =>
    have t1a : (tag != 23) = false := by rw [bne, t1]; rfl
    have t1b : (tag == 24) = false := by have := eq_of_beq t1; rw [this]; rfl
    have t1c : (tag != 24) = true := by have := eq_of_beq t1; rw [this]; rfl
    cases t2 : (n == 13) with
    | true =>
      have t2a : (n != 13) = false := by rw [bne, t2]; rfl
      have hr : whnStart tag n = some (whnC ⟨#[]⟩ n true) := by simp only [whnStart, t1, t2, if_true, Bool.false_eq_true, if_false, Bool.true_and, Bool.false_and, Bool.and_true, Bool.and_false, Bool.or_true, Bool.or_false, Bool.true_or, Bool.false_or, Bool.not_true, Bool.not_false, Option.map_some, Option.map_none]
      rw [hr]
      clear hr
      go_enter Try.func146, Try.ntmps146
      go_wp2_with fail
      first
        | refine bodyPost_ret (results_cell_tmp1 rfl _ _ _ _ _ _ _ rfl (heap_alloc_new w _) Try.underlying214 rfl info_whn) rfl ⟨rfl, (Below.refl _ _).alloc (Nat.le_refl _) _⟩
        | refine bodyPost_ret (results_cell_tmp1 rfl _ _ _ _ _ _ _ rfl (heap_alloc2_old w _ _) Try.underlying214 rfl info_whn) rfl ⟨rfl, ((Below.refl _ _).alloc (Nat.le_refl _) _).alloc (by simp) _⟩
        | refine bodyPost_ret (results_cell_tmp1 rfl _ _ _ _ _ _ _ rfl (heap_alloc2_new w _ _) Try.underlying214 rfl info_whn) rfl ⟨rfl, ((Below.refl _ _).alloc (Nat.le_refl _) _).alloc (by simp) _⟩
        | refine bodyPost_ret (results_cell_tmp1 rfl _ _ _ _ _ _ _ rfl (heap_alloc2_old w _ _) Try.underlying214 rfl info_whn) rfl ⟨rfl, (((Below.refl _ _).alloc (Nat.le_refl _) _).alloc (by simp) _).drew⟩
        | refine bodyPost_ret (results_cell_tmp1 rfl _ _ _ _ _ _ _ rfl (heap_alloc2_new w _ _) Try.underlying214 rfl info_whn) rfl ⟨rfl, (((Below.refl _ _).alloc (Nat.le_refl _) _).alloc (by simp) _).drew⟩
        | refine bodyPost_ret (results_cell_tmp1 rfl _ _ _ _ _ _ _ rfl (heap_alloc_new w _) Try.underlying214 rfl info_whn) rfl ⟨rfl, ((Below.refl _ _).alloc (Nat.le_refl _) _).drew⟩
    | false =>
      have t2a : (n != 13) = true := by rw [bne, t2]; rfl
      have hr : whnStart tag n = none := by simp only [whnStart, t1, t2, if_true, Bool.false_eq_true, if_false, Bool.true_and, Bool.false_and, Bool.and_true, Bool.and_false, Bool.or_true, Bool.or_false, Bool.true_or, Bool.false_or, Bool.not_true, Bool.not_false, Option.map_some, Option.map_none]
      rw [hr]
      clear hr
      go_enter Try.func146, Try.ntmps146
      go_wp2_with fail
      first
        | refine bodyPost_ret (results_cell_tmp1 rfl _ _ _ _ _ _ _ rfl (heap_alloc_new w _) Try.underlying214 rfl info_whn) rfl ⟨rfl, (Below.refl _ _).alloc (Nat.le_refl _) _⟩
        | refine bodyPost_ret (results_cell_tmp1 rfl _ _ _ _ _ _ _ rfl (heap_alloc2_old w _ _) Try.underlying214 rfl info_whn) rfl ⟨rfl, ((Below.refl _ _).alloc (Nat.le_refl _) _).alloc (by simp) _⟩
        | refine bodyPost_ret (results_cell_tmp1 rfl _ _ _ _ _ _ _ rfl (heap_alloc2_new w _ _) Try.underlying214 rfl info_whn) rfl ⟨rfl, ((Below.refl _ _).alloc (Nat.le_refl _) _).alloc (by simp) _⟩
        | refine bodyPost_ret (results_cell_tmp1 rfl _ _ _ _ _ _ _ rfl (heap_alloc2_old w _ _) Try.underlying214 rfl info_whn) rfl ⟨rfl, (((Below.refl _ _).alloc (Nat.le_refl _) _).alloc (by simp) _).drew⟩
        | refine bodyPost_ret (results_cell_tmp1 rfl _ _ _ _ _ _ _ rfl (heap_alloc2_new w _ _) Try.underlying214 rfl info_whn) rfl ⟨rfl, (((Below.refl _ _).alloc (Nat.le_refl _) _).alloc (by simp) _).drew⟩
        | refine bodyPost_ret (results_cell_tmp1 rfl _ _ _ _ _ _ _ rfl (heap_alloc_new w _) Try.underlying214 rfl info_whn) rfl ⟨rfl, ((Below.refl _ _).alloc (Nat.le_refl _) _).drew⟩
  | false =>
    have t1a : (tag != 23) = true := by rw [bne, t1]; rfl
    cases t2 : (tag == 24) with
    | true =>
      have t2a : (tag != 24) = false := by rw [bne, t2]; rfl
      cases t3 : (n == 15) with
      | true =>
        have t3a : (n != 15) = false := by rw [bne, t3]; rfl
        have hr : whnStart tag n = some (whnC ⟨#[]⟩ n false) := by simp only [whnStart, t1, t2, t3, if_true, Bool.false_eq_true, if_false, Bool.true_and, Bool.false_and, Bool.and_true, Bool.and_false, Bool.or_true, Bool.or_false, Bool.true_or, Bool.false_or, Bool.not_true, Bool.not_false, Option.map_some, Option.map_none]
        rw [hr]
        clear hr
        go_enter Try.func146, Try.ntmps146
        go_wp2_with fail
        first
          | refine bodyPost_ret (results_cell_tmp1 rfl _ _ _ _ _ _ _ rfl (heap_alloc_new w _) Try.underlying214 rfl info_whn) rfl ⟨rfl, (Below.refl _ _).alloc (Nat.le_refl _) _⟩
          | refine bodyPost_ret (results_cell_tmp1 rfl _ _ _ _ _ _ _ rfl (heap_alloc2_old w _ _) Try.underlying214 rfl info_whn) rfl ⟨rfl, ((Below.refl _ _).alloc (Nat.le_refl _) _).alloc (by simp) _⟩
          | refine bodyPost_ret (results_cell_tmp1 rfl _ _ _ _ _ _ _ rfl (heap_alloc2_new w _ _) Try.underlying214 rfl info_whn) rfl ⟨rfl, ((Below.refl _ _).alloc (Nat.le_refl _) _).alloc (by simp) _⟩
          | refine bodyPost_ret (results_cell_tmp1 rfl _ _ _ _ _ _ _ rfl (heap_alloc2_old w _ _) Try.underlying214 rfl info_whn) rfl ⟨rfl, (((Below.refl _ _).alloc (Nat.le_refl _) _).alloc (by simp) _).drew⟩
          | refine bodyPost_ret (results_cell_tmp1 rfl _ _ _ _ _ _ _ rfl (heap_alloc2_new w _ _) Try.underlying214 rfl info_whn) rfl ⟨rfl, (((Below.refl _ _).alloc (Nat.le_refl _) _).alloc (by simp) _).drew⟩
          | refine bodyPost_ret (results_cell_tmp1 rfl _ _ _ _ _ _ _ rfl (heap_alloc_new w _) Try.underlying214 rfl info_whn) rfl ⟨rfl, ((Below.refl _ _).alloc (Nat.le_refl _) _).drew⟩
      | false =>
        have t3a : (n != 15) = true := by rw [bne, t3]; rfl
        have hr : whnStart tag n = none := by simp only [whnStart, t1, t2, t3, if_true, Bool.false_eq_true, if_false, Bool.true_and, Bool.false_and, Bool.and_true, Bool.and_false, Bool.or_true, Bool.or_false, Bool.true_or, Bool.false_or, Bool.not_true, Bool.not_false, Option.map_some, Option.map_none]
        rw [hr]
        clear hr
        go_enter Try.func146, Try.ntmps146
        go_wp2_with fail
        first
          | refine bodyPost_ret (results_cell_tmp1 rfl _ _ _ _ _ _ _ rfl (heap_alloc_new w _) Try.underlying214 rfl info_whn) rfl ⟨rfl, (Below.refl _ _).alloc (Nat.le_refl _) _⟩
          | refine bodyPost_ret (results_cell_tmp1 rfl _ _ _ _ _ _ _ rfl (heap_alloc2_old w _ _) Try.underlying214 rfl info_whn) rfl ⟨rfl, ((Below.refl _ _).alloc (Nat.le_refl _) _).alloc (by simp) _⟩
          | refine bodyPost_ret (results_cell_tmp1 rfl _ _ _ _ _ _ _ rfl (heap_alloc2_new w _ _) Try.underlying214 rfl info_whn) rfl ⟨rfl, ((Below.refl _ _).alloc (Nat.le_refl _) _).alloc (by simp) _⟩
          | refine bodyPost_ret (results_cell_tmp1 rfl _ _ _ _ _ _ _ rfl (heap_alloc2_old w _ _) Try.underlying214 rfl info_whn) rfl ⟨rfl, (((Below.refl _ _).alloc (Nat.le_refl _) _).alloc (by simp) _).drew⟩
          | refine bodyPost_ret (results_cell_tmp1 rfl _ _ _ _ _ _ _ rfl (heap_alloc2_new w _ _) Try.underlying214 rfl info_whn) rfl ⟨rfl, (((Below.refl _ _).alloc (Nat.le_refl _) _).alloc (by simp) _).drew⟩
          | refine bodyPost_ret (results_cell_tmp1 rfl _ _ _ _ _ _ _ rfl (heap_alloc_new w _) Try.underlying214 rfl info_whn) rfl ⟨rfl, ((Below.refl _ _).alloc (Nat.le_refl _) _).drew⟩
    | false =>
      have t2a : (tag != 24) = true := by rw [bne, t2]; rfl
      have hr : whnStart tag n = none := by simp only [whnStart, t1, t2, if_true, Bool.false_eq_true, if_false, Bool.true_and, Bool.false_and, Bool.and_true, Bool.and_false, Bool.or_true, Bool.or_false, Bool.true_or, Bool.false_or, Bool.not_true, Bool.not_false, Option.map_some, Option.map_none]
      rw [hr]
      clear hr
      go_enter Try.func146, Try.ntmps146
      go_wp2_with fail
      first
        | refine bodyPost_ret (results_cell_tmp1 rfl _ _ _ _ _ _ _ rfl (heap_alloc_new w _) Try.underlying214 rfl info_whn) rfl ⟨rfl, (Below.refl _ _).alloc (Nat.le_refl _) _⟩
        | refine bodyPost_ret (results_cell_tmp1 rfl _ _ _ _ _ _ _ rfl (heap_alloc2_old w _ _) Try.underlying214 rfl info_whn) rfl ⟨rfl, ((Below.refl _ _).alloc (Nat.le_refl _) _).alloc (by simp) _⟩
        | refine bodyPost_ret (results_cell_tmp1 rfl _ _ _ _ _ _ _ rfl (heap_alloc2_new w _ _) Try.underlying214 rfl info_whn) rfl ⟨rfl, ((Below.refl _ _).alloc (Nat.le_refl _) _).alloc (by simp) _⟩
        | refine bodyPost_ret (results_cell_tmp1 rfl _ _ _ _ _ _ _ rfl (heap_alloc2_old w _ _) Try.underlying214 rfl info_whn) rfl ⟨rfl, (((Below.refl _ _).alloc (Nat.le_refl _) _).alloc (by simp) _).drew⟩
        | refine bodyPost_ret (results_cell_tmp1 rfl _ _ _ _ _ _ _ rfl (heap_alloc2_new w _ _) Try.underlying214 rfl info_whn) rfl ⟨rfl, (((Below.refl _ _).alloc (Nat.le_refl _) _).alloc (by simp) _).drew⟩
        | refine bodyPost_ret (results_cell_tmp1 rfl _ _ _ _ _ _ _ rfl (heap_alloc_new w _) Try.underlying214 rfl info_whn) rfl ⟨rfl, ((Below.refl _ _).alloc (Nat.le_refl _) _).drew⟩

/-- The number of some digits. -/
def numL (l : List Int) : Int := l.foldl (fun n x => 10 * n + (x - 48)) 0
theorem numL_snoc (l : List Int) (x : Int) : numL (l ++ [x]) = 10 * numL l + (x - 48) := by simp [numL]
theorem numL_go (l : List Int) : ∀ v : Int, 0 ≤ v → (∀ x ∈ l, 48 ≤ x ∧ x ≤ 57) → 0 ≤ l.foldl (fun n x => 10 * n + (x - 48)) v ∧ l.foldl (fun n x => 10 * n + (x - 48)) v < (v + 1) * 10 ^ l.length := by
  induction l with
  | nil => intro v hv _; simp; omega
  | cons x l ih =>
    intro v hv h
    have h2 := h x (by simp)
    have h1 := ih (10 * v + (x - 48)) (by omega) fun y hy => h y (by simp [hy])
    simp only [List.foldl_cons, List.length_cons]
    refine ⟨h1.1, Int.lt_of_lt_of_le h1.2 ?_⟩
    have h3 : (10 * v + (x - 48) + 1) ≤ (v + 1) * 10 := by omega
    have h4 : (0 : Int) ≤ 10 ^ l.length := Int.le_of_lt (Int.pow_pos (by decide))
    have h5 := Int.mul_le_mul_of_nonneg_right h3 h4
    rw [Int.pow_succ, Int.mul_comm (10 ^ l.length) 10, ← Int.mul_assoc]
    exact h5
theorem numL_range (l : List Int) (h : ∀ x ∈ l, 48 ≤ x ∧ x ≤ 57) : 0 ≤ numL l ∧ numL l < 10 ^ l.length := by
  have := numL_go l 0 (by omega) h
  simpa [numL] using this
theorem bytesOf_take_succ (b : ByteArray) (k : Nat) (h : k < b.size) : (bytesOf b).take (k + 1) = (bytesOf b).take k ++ [((b[k]'h).toNat : Int)] := by
  unfold bytesOf
  rw [← List.map_take, ← List.map_take, List.take_succ_eq_append_getElem (by simpa using h)]
  simp
  rfl
theorem bytesOf_length (b : ByteArray) : (bytesOf b).length = b.size := by simp [bytesOf]

set_option maxRecDepth 100000 in
set_option maxHeartbeats 4000000 in
theorem number_any (w : World) (s : ByteArray) (hs : s.size ≤ 14) (hd : ∀ x ∈ bytesOf s, 48 ≤ x ∧ x ≤ 57) : Calls Try.prog 198 #[.string s] w fun e w' => e = .returned (.int .i64 (numL (bytesOf s))) ∧ w' = w := by
  have HD := Lib.hid hd
  clear hd
  go_enter Try.func198, Try.ntmps198
  go_wp2_with fail
  go_loop [3, 7] (fun v i => ∃ k : Nat, k ≤ s.size ∧ i = .int .i64 k ∧ v = .int .i64 (numL ((bytesOf s).take k))) (fun _ i => s.size - (intOf i).toNat)
  case atStart => exact ⟨0, Nat.zero_le _, rfl, rfl⟩
  case round =>
    obtain ⟨k, hk, rfl, rfl⟩ := hrel
    have hr := numL_range ((bytesOf s).take k) (fun x hx => HD.out x (List.mem_of_mem_take hx))
    have hl : ((bytesOf s).take k).length = k := by rw [List.length_take, bytesOf_length]; omega
    rw [hl] at hr
    by_cases hlt : k < s.size
    · have hp : (10 : Int) ^ k ≤ 10 ^ 13 := by exact_mod_cast Nat.pow_le_pow_right (by decide) (by omega : k ≤ 13)
      have hp2 : (10 : Int) ^ 13 = 10000000000000 := by decide
      have hx := HD.out ((s[k]'hlt).toNat : Int) (by rw [← List.take_append_drop k (bytesOf s), bytesOf_drop s k hlt]; simp)
      have hn := numL_snoc ((bytesOf s).take k) ((s[k]'hlt).toNat : Int)
      rw [← bytesOf_take_succ s k hlt] at hn
      generalize numL ((bytesOf s).take k) = v at hr hn ⊢
      have hv0 : 0 ≤ v := hr.1
      have hv1 : v < 10000000000000 := by omega
      have hx0 : 48 ≤ ((s[k]'hlt).toNat : Int) := hx.1
      have hx1 : ((s[k]'hlt).toNat : Int) ≤ 57 := hx.2
      have d1 : (k : Int) < (s.size : Int) := by omega
      have HN := Lib.hid hn
      clear hn hr hl hp hp2 hx
      go_wp2_with fail
      go_round
      case rel => exact ⟨k + 1, by omega, by go_num, by rw [HN.out]⟩
      case measure => simp [intOf]; omega
    · have hke : k = s.size := by omega
      subst hke
      rw [List.take_of_length_le (by simp [bytesOf_length])]
      go_wp2_with fail
      go_ret
      exact ⟨rfl, rfl⟩
end Go.Proofs.Ytkabmmpccfeffaa
