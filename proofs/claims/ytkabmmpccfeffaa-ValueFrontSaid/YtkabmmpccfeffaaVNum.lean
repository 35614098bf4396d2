/- Layer 10 (number.State): by contracts. -/
import Derived.Test.YtkabmmpccfeffaaVHead
namespace Go.Proofs.Ytkabmmpccfeffaa
open Go.RowKit
set_option linter.unusedVariables false
set_option linter.unusedSimpArgs false

theorem results_cell_tmp1 {P : Program} {fn : Func} {p u : Tmp} {ty : TypeId} (h : fn.results = #[.cell p ty, .tmp u]) (tmps : Array Value) (w : World) (g : Nat) (t : TypeId) (cs : Array Value) (fr : Nat × Nat) (d : TypeDesc)
    (hp : tmps.getD p undef = .pointer (some ⟨g, 0, none⟩)) (hg : w.heap[g]? = some (.cells cs t fr))
    (hu : P.underlying ty = some d) (hd : (match d with | .struct _ | .array _ _ => true | _ => false) = true) (hi : (P.info? ty).map (·.size) = some cs.size) :
    (results fn tmps).run P w = .ok (.tuple #[.agg cs, tmps.getD u undef]) w := by
  have hp' : tmps[p]?.getD undef = .pointer (some ⟨g, 0, none⟩) := by simpa using hp
  simp [results, h, hp', asAddr, run_loadVar_row w g t ty cs fr d hg hu hd hi]
/-- The outcome of a content's Start or Push: its state's cells, and whether it can be. -/
def StPost (w : World) (z : Array Value) (r : Option (Array Value)) (e : Ending) (w' : World) : Prop :=
  e = .returned (.tuple #[.agg (r.getD z), .bool r.isSome]) ∧ Below w.heap.size w w'

def numZ : Array Value := #[.int .i64 0, .int .i64 0, .int .i64 0, .int .u8 0]
def numC (tag n at_ first : Int) : Array Value := #[.int .i64 tag, .int .i64 n, .int .i64 at_, .int .u8 first]
theorem info_num : (Try.prog.info? 203).map (·.size) = some 4 := by kernel_rfl
def numStart (tag n : Int) : Option (Array Value) := if (tag == 2) = true then (if decide (0 < n) = true then (some (numC tag n 0 0)) else (none)) else (if (tag == 10) = true then (if decide (0 < n) = true then (some (numC tag n 0 0)) else (none)) else (if (tag == 1) = true then (if (n == 1) = true then (some (numC tag n 0 0)) else (none)) else (if (tag == 5) = true then (if (n == 0) = true then (some (numC tag n 0 0)) else (none)) else (if decide (0 ≤ n) = true then (some (numC tag n 0 0)) else (none)))))
def numPush (tag n at_ first b : Int) : Option (Array Value) := if (tag == 1) = true then (if (b == 0) = true then (if (at_ == 0) = true then (some (numC tag n (at_ + 1) b)) else (some (numC tag n (at_ + 1) first))) else (if (b == 255) = true then (if (at_ == 0) = true then (some (numC tag n (at_ + 1) b)) else (some (numC tag n (at_ + 1) first))) else (none))) else (if (tag == 2) = true then (if (at_ == 1) = true then (if (first == 0) = true then (if decide (b < 128) = true then (none) else (some (numC tag n (at_ + 1) first))) else (if (first == 255) = true then (if decide (b < 128) = true then (some (numC tag n (at_ + 1) first)) else (none)) else (some (numC tag n (at_ + 1) first)))) else (if (at_ == 0) = true then (some (numC tag n (at_ + 1) b)) else (some (numC tag n (at_ + 1) first)))) else (if (tag == 10) = true then (if (at_ == 1) = true then (if (first == 0) = true then (if decide (b < 128) = true then (none) else (some (numC tag n (at_ + 1) first))) else (if (first == 255) = true then (if decide (b < 128) = true then (some (numC tag n (at_ + 1) first)) else (none)) else (some (numC tag n (at_ + 1) first)))) else (if (at_ == 0) = true then (some (numC tag n (at_ + 1) b)) else (some (numC tag n (at_ + 1) first)))) else (if (at_ == 0) = true then (some (numC tag n (at_ + 1) b)) else (some (numC tag n (at_ + 1) first)))))

set_option maxRecDepth 100000 in
set_option maxHeartbeats 2000000 in
theorem numStart_any (w : World) (tag n : Int) : Calls Try.prog 141 #[.int .i64 tag, .int .i64 n] w (StPost w numZ (numStart tag n)) := by
  cases t1 : (tag == 2) with
  | true =>
    cases t2 : decide (0 < n) with
    | true =>
      have hr : numStart tag n = some (numC tag n 0 0) := by simp only [numStart, t1, t2, if_true, Bool.false_eq_true, if_false, Bool.true_and, Bool.false_and, Bool.and_true, Bool.and_false, Bool.or_true, Bool.or_false, Bool.true_or, Bool.false_or, Bool.not_true, Bool.not_false, Option.map_some, Option.map_none]
      rw [hr]
      clear hr
      go_enter Try.func141, Try.ntmps141
      go_wp2_with fail
      first
        | refine bodyPost_ret (results_cell_tmp1 rfl _ _ _ _ _ _ _ rfl (heap_alloc_new w _) Try.underlying203 rfl info_num) rfl ⟨rfl, (Below.refl _ _).alloc (Nat.le_refl _) _⟩
        | refine bodyPost_ret (results_cell_tmp1 rfl _ _ _ _ _ _ _ rfl (heap_alloc2_old w _ _) Try.underlying203 rfl info_num) rfl ⟨rfl, ((Below.refl _ _).alloc (Nat.le_refl _) _).alloc (by simp) _⟩
        | refine bodyPost_ret (results_cell_tmp1 rfl _ _ _ _ _ _ _ rfl (heap_alloc2_new w _ _) Try.underlying203 rfl info_num) rfl ⟨rfl, ((Below.refl _ _).alloc (Nat.le_refl _) _).alloc (by simp) _⟩
        | refine bodyPost_ret (results_cell_tmp1 rfl _ _ _ _ _ _ _ rfl (heap_alloc2_old w _ _) Try.underlying203 rfl info_num) rfl ⟨rfl, (((Below.refl _ _).alloc (Nat.le_refl _) _).alloc (by simp) _).drew⟩
        | refine bodyPost_ret (results_cell_tmp1 rfl _ _ _ _ _ _ _ rfl (heap_alloc2_new w _ _) Try.underlying203 rfl info_num) rfl ⟨rfl, (((Below.refl _ _).alloc (Nat.le_refl _) _).alloc (by simp) _).drew⟩
        | refine bodyPost_ret (results_cell_tmp1 rfl _ _ _ _ _ _ _ rfl (heap_alloc_new w _) Try.underlying203 rfl info_num) rfl ⟨rfl, ((Below.refl _ _).alloc (Nat.le_refl _) _).drew⟩
    | false =>
      have hr : numStart tag n = none := by simp only [numStart, t1, t2, if_true, Bool.false_eq_true, if_false, Bool.true_and, Bool.false_and, Bool.and_true, Bool.and_false, Bool.or_true, Bool.or_false, Bool.true_or, Bool.false_or, Bool.not_true, Bool.not_false, Option.map_some, Option.map_none]
      rw [hr]
      clear hr
      go_enter Try.func141, Try.ntmps141
      go_wp2_with fail
      first
        | refine bodyPost_ret (results_cell_tmp1 rfl _ _ _ _ _ _ _ rfl (heap_alloc_new w _) Try.underlying203 rfl info_num) rfl ⟨rfl, (Below.refl _ _).alloc (Nat.le_refl _) _⟩
        | refine bodyPost_ret (results_cell_tmp1 rfl _ _ _ _ _ _ _ rfl (heap_alloc2_old w _ _) Try.underlying203 rfl info_num) rfl ⟨rfl, ((Below.refl _ _).alloc (Nat.le_refl _) _).alloc (by simp) _⟩
        | refine bodyPost_ret (results_cell_tmp1 rfl _ _ _ _ _ _ _ rfl (heap_alloc2_new w _ _) Try.underlying203 rfl info_num) rfl ⟨rfl, ((Below.refl _ _).alloc (Nat.le_refl _) _).alloc (by simp) _⟩
        | refine bodyPost_ret (results_cell_tmp1 rfl _ _ _ _ _ _ _ rfl (heap_alloc2_old w _ _) Try.underlying203 rfl info_num) rfl ⟨rfl, (((Below.refl _ _).alloc (Nat.le_refl _) _).alloc (by simp) _).drew⟩
        | refine bodyPost_ret (results_cell_tmp1 rfl _ _ _ _ _ _ _ rfl (heap_alloc2_new w _ _) Try.underlying203 rfl info_num) rfl ⟨rfl, (((Below.refl _ _).alloc (Nat.le_refl _) _).alloc (by simp) _).drew⟩
        | refine bodyPost_ret (results_cell_tmp1 rfl _ _ _ _ _ _ _ rfl (heap_alloc_new w _) Try.underlying203 rfl info_num) rfl ⟨rfl, ((Below.refl _ _).alloc (Nat.le_refl _) _).drew⟩
  | false =>
    cases t2 : (tag == 10) with
    | true =>
      cases t3 : decide (0 < n) with
      | true =>
        have hr : numStart tag n = some (numC tag n 0 0) := by simp only [numStart, t1, t2, t3, if_true, Bool.false_eq_true, if_false, Bool.true_and, Bool.false_and, Bool.and_true, Bool.and_false, Bool.or_true, Bool.or_false, Bool.true_or, Bool.false_or, Bool.not_true, Bool.not_false, Option.map_some, Option.map_none]
        rw [hr]
        clear hr
        go_enter Try.func141, Try.ntmps141
        go_wp2_with fail
        first
          | refine bodyPost_ret (results_cell_tmp1 rfl _ _ _ _ _ _ _ rfl (heap_alloc_new w _) Try.underlying203 rfl info_num) rfl ⟨rfl, (Below.refl _ _).alloc (Nat.le_refl _) _⟩
          | refine bodyPost_ret (results_cell_tmp1 rfl _ _ _ _ _ _ _ rfl (heap_alloc2_old w _ _) Try.underlying203 rfl info_num) rfl ⟨rfl, ((Below.refl _ _).alloc (Nat.le_refl _) _).alloc (by simp) _⟩
          | refine bodyPost_ret (results_cell_tmp1 rfl _ _ _ _ _ _ _ rfl (heap_alloc2_new w _ _) Try.underlying203 rfl info_num) rfl ⟨rfl, ((Below.refl _ _).alloc (Nat.le_refl _) _).alloc (by simp) _⟩
          | refine bodyPost_ret (results_cell_tmp1 rfl _ _ _ _ _ _ _ rfl (heap_alloc2_old w _ _) Try.underlying203 rfl info_num) rfl ⟨rfl, (((Below.refl _ _).alloc (Nat.le_refl _) _).alloc (by simp) _).drew⟩
          | refine bodyPost_ret (results_cell_tmp1 rfl _ _ _ _ _ _ _ rfl (heap_alloc2_new w _ _) Try.underlying203 rfl info_num) rfl ⟨rfl, (((Below.refl _ _).alloc (Nat.le_refl _) _).alloc (by simp) _).drew⟩
          | refine bodyPost_ret (results_cell_tmp1 rfl _ _ _ _ _ _ _ rfl (heap_alloc_new w _) Try.underlying203 rfl info_num) rfl ⟨rfl, ((Below.refl _ _).alloc (Nat.le_refl _) _).drew⟩
      | false =>
        have hr : numStart tag n = none := by simp only [numStart, t1, t2, t3, if_true, Bool.false_eq_true, if_false, Bool.true_and, Bool.false_and, Bool.and_true, Bool.and_false, Bool.or_true, Bool.or_false, Bool.true_or, Bool.false_or, Bool.not_true, Bool.not_false, Option.map_some, Option.map_none]
        rw [hr]
        clear hr
        go_enter Try.func141, Try.ntmps141
        go_wp2_with fail
        first
          | refine bodyPost_ret (results_cell_tmp1 rfl _ _ _ _ _ _ _ rfl (heap_alloc_new w _) Try.underlying203 rfl info_num) rfl ⟨rfl, (Below.refl _ _).alloc (Nat.le_refl _) _⟩
          | refine bodyPost_ret (results_cell_tmp1 rfl _ _ _ _ _ _ _ rfl (heap_alloc2_old w _ _) Try.underlying203 rfl info_num) rfl ⟨rfl, ((Below.refl _ _).alloc (Nat.le_refl _) _).alloc (by simp) _⟩
          | refine bodyPost_ret (results_cell_tmp1 rfl _ _ _ _ _ _ _ rfl (heap_alloc2_new w _ _) Try.underlying203 rfl info_num) rfl ⟨rfl, ((Below.refl _ _).alloc (Nat.le_refl _) _).alloc (by simp) _⟩
          | refine bodyPost_ret (results_cell_tmp1 rfl _ _ _ _ _ _ _ rfl (heap_alloc2_old w _ _) Try.underlying203 rfl info_num) rfl ⟨rfl, (((Below.refl _ _).alloc (Nat.le_refl _) _).alloc (by simp) _).drew⟩
          | refine bodyPost_ret (results_cell_tmp1 rfl _ _ _ _ _ _ _ rfl (heap_alloc2_new w _ _) Try.underlying203 rfl info_num) rfl ⟨rfl, (((Below.refl _ _).alloc (Nat.le_refl _) _).alloc (by simp) _).drew⟩
          | refine bodyPost_ret (results_cell_tmp1 rfl _ _ _ _ _ _ _ rfl (heap_alloc_new w _) Try.underlying203 rfl info_num) rfl ⟨rfl, ((Below.refl _ _).alloc (Nat.le_refl _) _).drew⟩
    | false =>
      cases t3 : (tag == 1) with
      | true =>
        cases t4 : (n == 1) with
        | true =>
          have hr : numStart tag n = some (numC tag n 0 0) := by simp only [numStart, t1, t2, t3, t4, if_true, Bool.false_eq_true, if_false, Bool.true_and, Bool.false_and, Bool.and_true, Bool.and_false, Bool.or_true, Bool.or_false, Bool.true_or, Bool.false_or, Bool.not_true, Bool.not_false, Option.map_some, Option.map_none]
          rw [hr]
          clear hr
          go_enter Try.func141, Try.ntmps141
          go_wp2_with fail
          first
            | refine bodyPost_ret (results_cell_tmp1 rfl _ _ _ _ _ _ _ rfl (heap_alloc_new w _) Try.underlying203 rfl info_num) rfl ⟨rfl, (Below.refl _ _).alloc (Nat.le_refl _) _⟩
            | refine bodyPost_ret (results_cell_tmp1 rfl _ _ _ _ _ _ _ rfl (heap_alloc2_old w _ _) Try.underlying203 rfl info_num) rfl ⟨rfl, ((Below.refl _ _).alloc (Nat.le_refl _) _).alloc (by simp) _⟩
            | refine bodyPost_ret (results_cell_tmp1 rfl _ _ _ _ _ _ _ rfl (heap_alloc2_new w _ _) Try.underlying203 rfl info_num) rfl ⟨rfl, ((Below.refl _ _).alloc (Nat.le_refl _) _).alloc (by simp) _⟩
            | refine bodyPost_ret (results_cell_tmp1 rfl _ _ _ _ _ _ _ rfl (heap_alloc2_old w _ _) Try.underlying203 rfl info_num) rfl ⟨rfl, (((Below.refl _ _).alloc (Nat.le_refl _) _).alloc (by simp) _).drew⟩
            | refine bodyPost_ret (results_cell_tmp1 rfl _ _ _ _ _ _ _ rfl (heap_alloc2_new w _ _) Try.underlying203 rfl info_num) rfl ⟨rfl, (((Below.refl _ _).alloc (Nat.le_refl _) _).alloc (by simp) _).drew⟩
            | refine bodyPost_ret (results_cell_tmp1 rfl _ _ _ _ _ _ _ rfl (heap_alloc_new w _) Try.underlying203 rfl info_num) rfl ⟨rfl, ((Below.refl _ _).alloc (Nat.le_refl _) _).drew⟩
        | false =>
          have hr : numStart tag n = none := by simp only [numStart, t1, t2, t3, t4, if_true, Bool.false_eq_true, if_false, Bool.true_and, Bool.false_and, Bool.and_true, Bool.and_false, Bool.or_true, Bool.or_false, Bool.true_or, Bool.false_or, Bool.not_true, Bool.not_false, Option.map_some, Option.map_none]
          rw [hr]
          clear hr
          go_enter Try.func141, Try.ntmps141
          go_wp2_with fail
          first
            | refine bodyPost_ret (results_cell_tmp1 rfl _ _ _ _ _ _ _ rfl (heap_alloc_new w _) Try.underlying203 rfl info_num) rfl ⟨rfl, (Below.refl _ _).alloc (Nat.le_refl _) _⟩
            | refine bodyPost_ret (results_cell_tmp1 rfl _ _ _ _ _ _ _ rfl (heap_alloc2_old w _ _) Try.underlying203 rfl info_num) rfl ⟨rfl, ((Below.refl _ _).alloc (Nat.le_refl _) _).alloc (by simp) _⟩
            | refine bodyPost_ret (results_cell_tmp1 rfl _ _ _ _ _ _ _ rfl (heap_alloc2_new w _ _) Try.underlying203 rfl info_num) rfl ⟨rfl, ((Below.refl _ _).alloc (Nat.le_refl _) _).alloc (by simp) _⟩
            | refine bodyPost_ret (results_cell_tmp1 rfl _ _ _ _ _ _ _ rfl (heap_alloc2_old w _ _) Try.underlying203 rfl info_num) rfl ⟨rfl, (((Below.refl _ _).alloc (Nat.le_refl _) _).alloc (by simp) _).drew⟩
            | refine bodyPost_ret (results_cell_tmp1 rfl _ _ _ _ _ _ _ rfl (heap_alloc2_new w _ _) Try.underlying203 rfl info_num) rfl ⟨rfl, (((Below.refl _ _).alloc (Nat.le_refl _) _).alloc (by simp) _).drew⟩
            | refine bodyPost_ret (results_cell_tmp1 rfl _ _ _ _ _ _ _ rfl (heap_alloc_new w _) Try.underlying203 rfl info_num) rfl ⟨rfl, ((Below.refl _ _).alloc (Nat.le_refl _) _).drew⟩
      | false =>
        cases t4 : (tag == 5) with
        | true =>
          cases t5 : (n == 0) with
          | true =>
            have hr : numStart tag n = some (numC tag n 0 0) := by simp only [numStart, t1, t2, t3, t4, t5, if_true, Bool.false_eq_true, if_false, Bool.true_and, Bool.false_and, Bool.and_true, Bool.and_false, Bool.or_true, Bool.or_false, Bool.true_or, Bool.false_or, Bool.not_true, Bool.not_false, Option.map_some, Option.map_none]
            rw [hr]
            clear hr
            go_enter Try.func141, Try.ntmps141
            go_wp2_with fail
            first
              | refine bodyPost_ret (results_cell_tmp1 rfl _ _ _ _ _ _ _ rfl (heap_alloc_new w _) Try.underlying203 rfl info_num) rfl ⟨rfl, (Below.refl _ _).alloc (Nat.le_refl _) _⟩
              | refine bodyPost_ret (results_cell_tmp1 rfl _ _ _ _ _ _ _ rfl (heap_alloc2_old w _ _) Try.underlying203 rfl info_num) rfl ⟨rfl, ((Below.refl _ _).alloc (Nat.le_refl _) _).alloc (by simp) _⟩
              | refine bodyPost_ret (results_cell_tmp1 rfl _ _ _ _ _ _ _ rfl (heap_alloc2_new w _ _) Try.underlying203 rfl info_num) rfl ⟨rfl, ((Below.refl _ _).alloc (Nat.le_refl _) _).alloc (by simp) _⟩
              | refine bodyPost_ret (results_cell_tmp1 rfl _ _ _ _ _ _ _ rfl (heap_alloc2_old w _ _) Try.underlying203 rfl info_num) rfl ⟨rfl, (((Below.refl _ _).alloc (Nat.le_refl _) _).alloc (by simp) _).drew⟩
              | refine bodyPost_ret (results_cell_tmp1 rfl _ _ _ _ _ _ _ rfl (heap_alloc2_new w _ _) Try.underlying203 rfl info_num) rfl ⟨rfl, (((Below.refl _ _).alloc (Nat.le_refl _) _).alloc (by simp) _).drew⟩
              | refine bodyPost_ret (results_cell_tmp1 rfl _ _ _ _ _ _ _ rfl (heap_alloc_new w _) Try.underlying203 rfl info_num) rfl ⟨rfl, ((Below.refl _ _).alloc (Nat.le_refl _) _).drew⟩
          | false =>
            have hr : numStart tag n = none := by simp only [numStart, t1, t2, t3, t4, t5, if_true, Bool.false_eq_true, if_false, Bool.true_and, Bool.false_and, Bool.and_true, Bool.and_false, Bool.or_true, Bool.or_false, Bool.true_or, Bool.false_or, Bool.not_true, Bool.not_false, Option.map_some, Option.map_none]
            rw [hr]
            clear hr
            go_enter Try.func141, Try.ntmps141
            go_wp2_with fail
            first
              | refine bodyPost_ret (results_cell_tmp1 rfl _ _ _ _ _ _ _ rfl (heap_alloc_new w _) Try.underlying203 rfl info_num) rfl ⟨rfl, (Below.refl _ _).alloc (Nat.le_refl _) _⟩
              | refine bodyPost_ret (results_cell_tmp1 rfl _ _ _ _ _ _ _ rfl (heap_alloc2_old w _ _) Try.underlying203 rfl info_num) rfl ⟨rfl, ((Below.refl _ _).alloc (Nat.le_refl _) _).alloc (by simp) _⟩
              | refine bodyPost_ret (results_cell_tmp1 rfl _ _ _ _ _ _ _ rfl (heap_alloc2_new w _ _) Try.underlying203 rfl info_num) rfl ⟨rfl, ((Below.refl _ _).alloc (Nat.le_refl _) _).alloc (by simp) _⟩
              | refine bodyPost_ret (results_cell_tmp1 rfl _ _ _ _ _ _ _ rfl (heap_alloc2_old w _ _) Try.underlying203 rfl info_num) rfl ⟨rfl, (((Below.refl _ _).alloc (Nat.le_refl _) _).alloc (by simp) _).drew⟩
              | refine bodyPost_ret (results_cell_tmp1 rfl _ _ _ _ _ _ _ rfl (heap_alloc2_new w _ _) Try.underlying203 rfl info_num) rfl ⟨rfl, (((Below.refl _ _).alloc (Nat.le_refl _) _).alloc (by simp) _).drew⟩
              | refine bodyPost_ret (results_cell_tmp1 rfl _ _ _ _ _ _ _ rfl (heap_alloc_new w _) Try.underlying203 rfl info_num) rfl ⟨rfl, ((Below.refl _ _).alloc (Nat.le_refl _) _).drew⟩
        | false =>
          cases t5 : decide (0 ≤ n) with
          | true =>
            have hr : numStart tag n = some (numC tag n 0 0) := by simp only [numStart, t1, t2, t3, t4, t5, if_true, Bool.false_eq_true, if_false, Bool.true_and, Bool.false_and, Bool.and_true, Bool.and_false, Bool.or_true, Bool.or_false, Bool.true_or, Bool.false_or, Bool.not_true, Bool.not_false, Option.map_some, Option.map_none]
            rw [hr]
            clear hr
            go_enter Try.func141, Try.ntmps141
            go_wp2_with fail
            first
              | refine bodyPost_ret (results_cell_tmp1 rfl _ _ _ _ _ _ _ rfl (heap_alloc_new w _) Try.underlying203 rfl info_num) rfl ⟨rfl, (Below.refl _ _).alloc (Nat.le_refl _) _⟩
              | refine bodyPost_ret (results_cell_tmp1 rfl _ _ _ _ _ _ _ rfl (heap_alloc2_old w _ _) Try.underlying203 rfl info_num) rfl ⟨rfl, ((Below.refl _ _).alloc (Nat.le_refl _) _).alloc (by simp) _⟩
              | refine bodyPost_ret (results_cell_tmp1 rfl _ _ _ _ _ _ _ rfl (heap_alloc2_new w _ _) Try.underlying203 rfl info_num) rfl ⟨rfl, ((Below.refl _ _).alloc (Nat.le_refl _) _).alloc (by simp) _⟩
              | refine bodyPost_ret (results_cell_tmp1 rfl _ _ _ _ _ _ _ rfl (heap_alloc2_old w _ _) Try.underlying203 rfl info_num) rfl ⟨rfl, (((Below.refl _ _).alloc (Nat.le_refl _) _).alloc (by simp) _).drew⟩
              | refine bodyPost_ret (results_cell_tmp1 rfl _ _ _ _ _ _ _ rfl (heap_alloc2_new w _ _) Try.underlying203 rfl info_num) rfl ⟨rfl, (((Below.refl _ _).alloc (Nat.le_refl _) _).alloc (by simp) _).drew⟩
              | refine bodyPost_ret (results_cell_tmp1 rfl _ _ _ _ _ _ _ rfl (heap_alloc_new w _) Try.underlying203 rfl info_num) rfl ⟨rfl, ((Below.refl _ _).alloc (Nat.le_refl _) _).drew⟩
          | false =>
            have hr : numStart tag n = none := by simp only [numStart, t1, t2, t3, t4, t5, if_true, Bool.false_eq_true, if_false, Bool.true_and, Bool.false_and, Bool.and_true, Bool.and_false, Bool.or_true, Bool.or_false, Bool.true_or, Bool.false_or, Bool.not_true, Bool.not_false, Option.map_some, Option.map_none]
            rw [hr]
            clear hr
            go_enter Try.func141, Try.ntmps141
            go_wp2_with fail
            first
              | refine bodyPost_ret (results_cell_tmp1 rfl _ _ _ _ _ _ _ rfl (heap_alloc_new w _) Try.underlying203 rfl info_num) rfl ⟨rfl, (Below.refl _ _).alloc (Nat.le_refl _) _⟩
              | refine bodyPost_ret (results_cell_tmp1 rfl _ _ _ _ _ _ _ rfl (heap_alloc2_old w _ _) Try.underlying203 rfl info_num) rfl ⟨rfl, ((Below.refl _ _).alloc (Nat.le_refl _) _).alloc (by simp) _⟩
              | refine bodyPost_ret (results_cell_tmp1 rfl _ _ _ _ _ _ _ rfl (heap_alloc2_new w _ _) Try.underlying203 rfl info_num) rfl ⟨rfl, ((Below.refl _ _).alloc (Nat.le_refl _) _).alloc (by simp) _⟩
              | refine bodyPost_ret (results_cell_tmp1 rfl _ _ _ _ _ _ _ rfl (heap_alloc2_old w _ _) Try.underlying203 rfl info_num) rfl ⟨rfl, (((Below.refl _ _).alloc (Nat.le_refl _) _).alloc (by simp) _).drew⟩
              | refine bodyPost_ret (results_cell_tmp1 rfl _ _ _ _ _ _ _ rfl (heap_alloc2_new w _ _) Try.underlying203 rfl info_num) rfl ⟨rfl, (((Below.refl _ _).alloc (Nat.le_refl _) _).alloc (by simp) _).drew⟩
              | refine bodyPost_ret (results_cell_tmp1 rfl _ _ _ _ _ _ _ rfl (heap_alloc_new w _) Try.underlying203 rfl info_num) rfl ⟨rfl, ((Below.refl _ _).alloc (Nat.le_refl _) _).drew⟩

set_option maxRecDepth 100000 in
set_option maxHeartbeats 4000000 in
theorem numPush_any (w : World) (tag n at_ first b : Int) (h0 : 0 ≤ at_) (h1 : at_ < 9223372036854775806) : Calls Try.prog 183 #[.agg #[.int .i64 tag, .int .i64 n, .int .i64 at_, .int .u8 first], .int .u8 b] w (StPost w numZ (numPush tag n at_ first b)) := by
  cases t1 : (tag == 1) with
  | true =>
    cases t2 : (b == 0) with
    | true =>
      cases t3 : (at_ == 0) with
      | true =>
        have hr : numPush tag n at_ first b = some (numC tag n (at_ + 1) b) := by simp only [numPush, t1, t2, t3, if_true, Bool.false_eq_true, if_false, Bool.true_and, Bool.false_and, Bool.and_true, Bool.and_false, Bool.or_true, Bool.or_false, Bool.true_or, Bool.false_or, Bool.not_true, Bool.not_false, Option.map_some, Option.map_none]
        rw [hr]
        clear hr
        go_enter Try.func183, Try.ntmps183
        go_wp2_with fail
        first
          | refine bodyPost_ret (results_cell_tmp1 rfl _ _ _ _ _ _ _ rfl (heap_alloc_new w _) Try.underlying203 rfl info_num) rfl ⟨rfl, (Below.refl _ _).alloc (Nat.le_refl _) _⟩
          | refine bodyPost_ret (results_cell_tmp1 rfl _ _ _ _ _ _ _ rfl (heap_alloc2_old w _ _) Try.underlying203 rfl info_num) rfl ⟨rfl, ((Below.refl _ _).alloc (Nat.le_refl _) _).alloc (by simp) _⟩
          | refine bodyPost_ret (results_cell_tmp1 rfl _ _ _ _ _ _ _ rfl (heap_alloc2_new w _ _) Try.underlying203 rfl info_num) rfl ⟨rfl, ((Below.refl _ _).alloc (Nat.le_refl _) _).alloc (by simp) _⟩
          | refine bodyPost_ret (results_cell_tmp1 rfl _ _ _ _ _ _ _ rfl (heap_alloc2_old w _ _) Try.underlying203 rfl info_num) rfl ⟨rfl, (((Below.refl _ _).alloc (Nat.le_refl _) _).alloc (by simp) _).drew⟩
          | refine bodyPost_ret (results_cell_tmp1 rfl _ _ _ _ _ _ _ rfl (heap_alloc2_new w _ _) Try.underlying203 rfl info_num) rfl ⟨rfl, (((Below.refl _ _).alloc (Nat.le_refl _) _).alloc (by simp) _).drew⟩
          | refine bodyPost_ret (results_cell_tmp1 rfl _ _ _ _ _ _ _ rfl (heap_alloc_new w _) Try.underlying203 rfl info_num) rfl ⟨rfl, ((Below.refl _ _).alloc (Nat.le_refl _) _).drew⟩
      | false =>
        have hr : numPush tag n at_ first b = some (numC tag n (at_ + 1) first) := by simp only [numPush, t1, t2, t3, if_true, Bool.false_eq_true, if_false, Bool.true_and, Bool.false_and, Bool.and_true, Bool.and_false, Bool.or_true, Bool.or_false, Bool.true_or, Bool.false_or, Bool.not_true, Bool.not_false, Option.map_some, Option.map_none]
        rw [hr]
        clear hr
        go_enter Try.func183, Try.ntmps183
        go_wp2_with fail
        first
          | refine bodyPost_ret (results_cell_tmp1 rfl _ _ _ _ _ _ _ rfl (heap_alloc_new w _) Try.underlying203 rfl info_num) rfl ⟨rfl, (Below.refl _ _).alloc (Nat.le_refl _) _⟩
          | refine bodyPost_ret (results_cell_tmp1 rfl _ _ _ _ _ _ _ rfl (heap_alloc2_old w _ _) Try.underlying203 rfl info_num) rfl ⟨rfl, ((Below.refl _ _).alloc (Nat.le_refl _) _).alloc (by simp) _⟩
          | refine bodyPost_ret (results_cell_tmp1 rfl _ _ _ _ _ _ _ rfl (heap_alloc2_new w _ _) Try.underlying203 rfl info_num) rfl ⟨rfl, ((Below.refl _ _).alloc (Nat.le_refl _) _).alloc (by simp) _⟩
          | refine bodyPost_ret (results_cell_tmp1 rfl _ _ _ _ _ _ _ rfl (heap_alloc2_old w _ _) Try.underlying203 rfl info_num) rfl ⟨rfl, (((Below.refl _ _).alloc (Nat.le_refl _) _).alloc (by simp) _).drew⟩
          | refine bodyPost_ret (results_cell_tmp1 rfl _ _ _ _ _ _ _ rfl (heap_alloc2_new w _ _) Try.underlying203 rfl info_num) rfl ⟨rfl, (((Below.refl _ _).alloc (Nat.le_refl _) _).alloc (by simp) _).drew⟩
          | refine bodyPost_ret (results_cell_tmp1 rfl _ _ _ _ _ _ _ rfl (heap_alloc_new w _) Try.underlying203 rfl info_num) rfl ⟨rfl, ((Below.refl _ _).alloc (Nat.le_refl _) _).drew⟩
    | false =>
      cases t3 : (b == 255) with
      | true =>
        cases t4 : (at_ == 0) with
        | true =>
          have hr : numPush tag n at_ first b = some (numC tag n (at_ + 1) b) := by simp only [numPush, t1, t2, t3, t4, if_true, Bool.false_eq_true, if_false, Bool.true_and, Bool.false_and, Bool.and_true, Bool.and_false, Bool.or_true, Bool.or_false, Bool.true_or, Bool.false_or, Bool.not_true, Bool.not_false, Option.map_some, Option.map_none]
          rw [hr]
          clear hr
          go_enter Try.func183, Try.ntmps183
          go_wp2_with fail
          first
            | refine bodyPost_ret (results_cell_tmp1 rfl _ _ _ _ _ _ _ rfl (heap_alloc_new w _) Try.underlying203 rfl info_num) rfl ⟨rfl, (Below.refl _ _).alloc (Nat.le_refl _) _⟩
            | refine bodyPost_ret (results_cell_tmp1 rfl _ _ _ _ _ _ _ rfl (heap_alloc2_old w _ _) Try.underlying203 rfl info_num) rfl ⟨rfl, ((Below.refl _ _).alloc (Nat.le_refl _) _).alloc (by simp) _⟩
            | refine bodyPost_ret (results_cell_tmp1 rfl _ _ _ _ _ _ _ rfl (heap_alloc2_new w _ _) Try.underlying203 rfl info_num) rfl ⟨rfl, ((Below.refl _ _).alloc (Nat.le_refl _) _).alloc (by simp) _⟩
            | refine bodyPost_ret (results_cell_tmp1 rfl _ _ _ _ _ _ _ rfl (heap_alloc2_old w _ _) Try.underlying203 rfl info_num) rfl ⟨rfl, (((Below.refl _ _).alloc (Nat.le_refl _) _).alloc (by simp) _).drew⟩
            | refine bodyPost_ret (results_cell_tmp1 rfl _ _ _ _ _ _ _ rfl (heap_alloc2_new w _ _) Try.underlying203 rfl info_num) rfl ⟨rfl, (((Below.refl _ _).alloc (Nat.le_refl _) _).alloc (by simp) _).drew⟩
            | refine bodyPost_ret (results_cell_tmp1 rfl _ _ _ _ _ _ _ rfl (heap_alloc_new w _) Try.underlying203 rfl info_num) rfl ⟨rfl, ((Below.refl _ _).alloc (Nat.le_refl _) _).drew⟩
        | false =>
          have hr : numPush tag n at_ first b = some (numC tag n (at_ + 1) first) := by simp only [numPush, t1, t2, t3, t4, if_true, Bool.false_eq_true, if_false, Bool.true_and, Bool.false_and, Bool.and_true, Bool.and_false, Bool.or_true, Bool.or_false, Bool.true_or, Bool.false_or, Bool.not_true, Bool.not_false, Option.map_some, Option.map_none]
          rw [hr]
          clear hr
          go_enter Try.func183, Try.ntmps183
          go_wp2_with fail
          first
            | refine bodyPost_ret (results_cell_tmp1 rfl _ _ _ _ _ _ _ rfl (heap_alloc_new w _) Try.underlying203 rfl info_num) rfl ⟨rfl, (Below.refl _ _).alloc (Nat.le_refl _) _⟩
            | refine bodyPost_ret (results_cell_tmp1 rfl _ _ _ _ _ _ _ rfl (heap_alloc2_old w _ _) Try.underlying203 rfl info_num) rfl ⟨rfl, ((Below.refl _ _).alloc (Nat.le_refl _) _).alloc (by simp) _⟩
            | refine bodyPost_ret (results_cell_tmp1 rfl _ _ _ _ _ _ _ rfl (heap_alloc2_new w _ _) Try.underlying203 rfl info_num) rfl ⟨rfl, ((Below.refl _ _).alloc (Nat.le_refl _) _).alloc (by simp) _⟩
            | refine bodyPost_ret (results_cell_tmp1 rfl _ _ _ _ _ _ _ rfl (heap_alloc2_old w _ _) Try.underlying203 rfl info_num) rfl ⟨rfl, (((Below.refl _ _).alloc (Nat.le_refl _) _).alloc (by simp) _).drew⟩
            | refine bodyPost_ret (results_cell_tmp1 rfl _ _ _ _ _ _ _ rfl (heap_alloc2_new w _ _) Try.underlying203 rfl info_num) rfl ⟨rfl, (((Below.refl _ _).alloc (Nat.le_refl _) _).alloc (by simp) _).drew⟩
            | refine bodyPost_ret (results_cell_tmp1 rfl _ _ _ _ _ _ _ rfl (heap_alloc_new w _) Try.underlying203 rfl info_num) rfl ⟨rfl, ((Below.refl _ _).alloc (Nat.le_refl _) _).drew⟩
      | false =>
        have hr : numPush tag n at_ first b = none := by simp only [numPush, t1, t2, t3, if_true, Bool.false_eq_true, if_false, Bool.true_and, Bool.false_and, Bool.and_true, Bool.and_false, Bool.or_true, Bool.or_false, Bool.true_or, Bool.false_or, Bool.not_true, Bool.not_false, Option.map_some, Option.map_none]
        rw [hr]
        clear hr
        go_enter Try.func183, Try.ntmps183
        go_wp2_with fail
        first
          | refine bodyPost_ret (results_cell_tmp1 rfl _ _ _ _ _ _ _ rfl (heap_alloc_new w _) Try.underlying203 rfl info_num) rfl ⟨rfl, (Below.refl _ _).alloc (Nat.le_refl _) _⟩
          | refine bodyPost_ret (results_cell_tmp1 rfl _ _ _ _ _ _ _ rfl (heap_alloc2_old w _ _) Try.underlying203 rfl info_num) rfl ⟨rfl, ((Below.refl _ _).alloc (Nat.le_refl _) _).alloc (by simp) _⟩
          | refine bodyPost_ret (results_cell_tmp1 rfl _ _ _ _ _ _ _ rfl (heap_alloc2_new w _ _) Try.underlying203 rfl info_num) rfl ⟨rfl, ((Below.refl _ _).alloc (Nat.le_refl _) _).alloc (by simp) _⟩
          | refine bodyPost_ret (results_cell_tmp1 rfl _ _ _ _ _ _ _ rfl (heap_alloc2_old w _ _) Try.underlying203 rfl info_num) rfl ⟨rfl, (((Below.refl _ _).alloc (Nat.le_refl _) _).alloc (by simp) _).drew⟩
          | refine bodyPost_ret (results_cell_tmp1 rfl _ _ _ _ _ _ _ rfl (heap_alloc2_new w _ _) Try.underlying203 rfl info_num) rfl ⟨rfl, (((Below.refl _ _).alloc (Nat.le_refl _) _).alloc (by simp) _).drew⟩
          | refine bodyPost_ret (results_cell_tmp1 rfl _ _ _ _ _ _ _ rfl (heap_alloc_new w _) Try.underlying203 rfl info_num) rfl ⟨rfl, ((Below.refl _ _).alloc (Nat.le_refl _) _).drew⟩
  | false =>
    cases t2 : (tag == 2) with
    | true =>
      cases t3 : (at_ == 1) with
      | true =>
        have t3a : (at_ == 0) = false := by have := eq_of_beq t3; rw [this]; rfl
        cases t4 : (first == 0) with
        | true =>
          have t4a : (first == 255) = false := by have := eq_of_beq t4; rw [this]; rfl
          cases t5 : decide (b < 128) with
          | true =>
            have t5a : decide (128 ≤ b) = false := by have := of_decide_eq_true t5; exact decide_eq_false (by omega)
            have hr : numPush tag n at_ first b = none := by simp only [numPush, t1, t2, t3, t4, t5, if_true, Bool.false_eq_true, if_false, Bool.true_and, Bool.false_and, Bool.and_true, Bool.and_false, Bool.or_true, Bool.or_false, Bool.true_or, Bool.false_or, Bool.not_true, Bool.not_false, Option.map_some, Option.map_none]
            rw [hr]
            clear hr
            go_enter Try.func183, Try.ntmps183
            go_wp2_with fail
            first
              | refine bodyPost_ret (results_cell_tmp1 rfl _ _ _ _ _ _ _ rfl (heap_alloc_new w _) Try.underlying203 rfl info_num) rfl ⟨rfl, (Below.refl _ _).alloc (Nat.le_refl _) _⟩
              | refine bodyPost_ret (results_cell_tmp1 rfl _ _ _ _ _ _ _ rfl (heap_alloc2_old w _ _) Try.underlying203 rfl info_num) rfl ⟨rfl, ((Below.refl _ _).alloc (Nat.le_refl _) _).alloc (by simp) _⟩
              | refine bodyPost_ret (results_cell_tmp1 rfl _ _ _ _ _ _ _ rfl (heap_alloc2_new w _ _) Try.underlying203 rfl info_num) rfl ⟨rfl, ((Below.refl _ _).alloc (Nat.le_refl _) _).alloc (by simp) _⟩
              | refine bodyPost_ret (results_cell_tmp1 rfl _ _ _ _ _ _ _ rfl (heap_alloc2_old w _ _) Try.underlying203 rfl info_num) rfl ⟨rfl, (((Below.refl _ _).alloc (Nat.le_refl _) _).alloc (by simp) _).drew⟩
              | refine bodyPost_ret (results_cell_tmp1 rfl _ _ _ _ _ _ _ rfl (heap_alloc2_new w _ _) Try.underlying203 rfl info_num) rfl ⟨rfl, (((Below.refl _ _).alloc (Nat.le_refl _) _).alloc (by simp) _).drew⟩
              | refine bodyPost_ret (results_cell_tmp1 rfl _ _ _ _ _ _ _ rfl (heap_alloc_new w _) Try.underlying203 rfl info_num) rfl ⟨rfl, ((Below.refl _ _).alloc (Nat.le_refl _) _).drew⟩
          | false =>
            have t5a : decide (128 ≤ b) = true := by have := of_decide_eq_false t5; exact decide_eq_true (by omega)
            have hr : numPush tag n at_ first b = some (numC tag n (at_ + 1) first) := by simp only [numPush, t1, t2, t3, t4, t5, if_true, Bool.false_eq_true, if_false, Bool.true_and, Bool.false_and, Bool.and_true, Bool.and_false, Bool.or_true, Bool.or_false, Bool.true_or, Bool.false_or, Bool.not_true, Bool.not_false, Option.map_some, Option.map_none]
            rw [hr]
            clear hr
            go_enter Try.func183, Try.ntmps183
            go_wp2_with fail
            first
              | refine bodyPost_ret (results_cell_tmp1 rfl _ _ _ _ _ _ _ rfl (heap_alloc_new w _) Try.underlying203 rfl info_num) rfl ⟨rfl, (Below.refl _ _).alloc (Nat.le_refl _) _⟩
              | refine bodyPost_ret (results_cell_tmp1 rfl _ _ _ _ _ _ _ rfl (heap_alloc2_old w _ _) Try.underlying203 rfl info_num) rfl ⟨rfl, ((Below.refl _ _).alloc (Nat.le_refl _) _).alloc (by simp) _⟩
              | refine bodyPost_ret (results_cell_tmp1 rfl _ _ _ _ _ _ _ rfl (heap_alloc2_new w _ _) Try.underlying203 rfl info_num) rfl ⟨rfl, ((Below.refl _ _).alloc (Nat.le_refl _) _).alloc (by simp) _⟩
              | refine bodyPost_ret (results_cell_tmp1 rfl _ _ _ _ _ _ _ rfl (heap_alloc2_old w _ _) Try.underlying203 rfl info_num) rfl ⟨rfl, (((Below.refl _ _).alloc (Nat.le_refl _) _).alloc (by simp) _).drew⟩
              | refine bodyPost_ret (results_cell_tmp1 rfl _ _ _ _ _ _ _ rfl (heap_alloc2_new w _ _) Try.underlying203 rfl info_num) rfl ⟨rfl, (((Below.refl _ _).alloc (Nat.le_refl _) _).alloc (by simp) _).drew⟩
              | refine bodyPost_ret (results_cell_tmp1 rfl _ _ _ _ _ _ _ rfl (heap_alloc_new w _) Try.underlying203 rfl info_num) rfl ⟨rfl, ((Below.refl _ _).alloc (Nat.le_refl _) _).drew⟩
        | false =>
          cases t5 : (first == 255) with
          | true =>
            cases t6 : decide (b < 128) with
            | true =>
              have t6a : decide (128 ≤ b) = false := by have := of_decide_eq_true t6; exact decide_eq_false (by omega)
              have hr : numPush tag n at_ first b = some (numC tag n (at_ + 1) first) := by simp only [numPush, t1, t2, t3, t4, t5, t6, if_true, Bool.false_eq_true, if_false, Bool.true_and, Bool.false_and, Bool.and_true, Bool.and_false, Bool.or_true, Bool.or_false, Bool.true_or, Bool.false_or, Bool.not_true, Bool.not_false, Option.map_some, Option.map_none]
              rw [hr]
              clear hr
              go_enter Try.func183, Try.ntmps183
              go_wp2_with fail
              first
                | refine bodyPost_ret (results_cell_tmp1 rfl _ _ _ _ _ _ _ rfl (heap_alloc_new w _) Try.underlying203 rfl info_num) rfl ⟨rfl, (Below.refl _ _).alloc (Nat.le_refl _) _⟩
                | refine bodyPost_ret (results_cell_tmp1 rfl _ _ _ _ _ _ _ rfl (heap_alloc2_old w _ _) Try.underlying203 rfl info_num) rfl ⟨rfl, ((Below.refl _ _).alloc (Nat.le_refl _) _).alloc (by simp) _⟩
                | refine bodyPost_ret (results_cell_tmp1 rfl _ _ _ _ _ _ _ rfl (heap_alloc2_new w _ _) Try.underlying203 rfl info_num) rfl ⟨rfl, ((Below.refl _ _).alloc (Nat.le_refl _) _).alloc (by simp) _⟩
                | refine bodyPost_ret (results_cell_tmp1 rfl _ _ _ _ _ _ _ rfl (heap_alloc2_old w _ _) Try.underlying203 rfl info_num) rfl ⟨rfl, (((Below.refl _ _).alloc (Nat.le_refl _) _).alloc (by simp) _).drew⟩
                | refine bodyPost_ret (results_cell_tmp1 rfl _ _ _ _ _ _ _ rfl (heap_alloc2_new w _ _) Try.underlying203 rfl info_num) rfl ⟨rfl, (((Below.refl _ _).alloc (Nat.le_refl _) _).alloc (by simp) _).drew⟩
                | refine bodyPost_ret (results_cell_tmp1 rfl _ _ _ _ _ _ _ rfl (heap_alloc_new w _) Try.underlying203 rfl info_num) rfl ⟨rfl, ((Below.refl _ _).alloc (Nat.le_refl _) _).drew⟩
            | false =>
              have t6a : decide (128 ≤ b) = true := by have := of_decide_eq_false t6; exact decide_eq_true (by omega)
              have hr : numPush tag n at_ first b = none := by simp only [numPush, t1, t2, t3, t4, t5, t6, if_true, Bool.false_eq_true, if_false, Bool.true_and, Bool.false_and, Bool.and_true, Bool.and_false, Bool.or_true, Bool.or_false, Bool.true_or, Bool.false_or, Bool.not_true, Bool.not_false, Option.map_some, Option.map_none]
              rw [hr]
              clear hr
              go_enter Try.func183, Try.ntmps183
              go_wp2_with fail
              first
                | refine bodyPost_ret (results_cell_tmp1 rfl _ _ _ _ _ _ _ rfl (heap_alloc_new w _) Try.underlying203 rfl info_num) rfl ⟨rfl, (Below.refl _ _).alloc (Nat.le_refl _) _⟩
                | refine bodyPost_ret (results_cell_tmp1 rfl _ _ _ _ _ _ _ rfl (heap_alloc2_old w _ _) Try.underlying203 rfl info_num) rfl ⟨rfl, ((Below.refl _ _).alloc (Nat.le_refl _) _).alloc (by simp) _⟩
                | refine bodyPost_ret (results_cell_tmp1 rfl _ _ _ _ _ _ _ rfl (heap_alloc2_new w _ _) Try.underlying203 rfl info_num) rfl ⟨rfl, ((Below.refl _ _).alloc (Nat.le_refl _) _).alloc (by simp) _⟩
                | refine bodyPost_ret (results_cell_tmp1 rfl _ _ _ _ _ _ _ rfl (heap_alloc2_old w _ _) Try.underlying203 rfl info_num) rfl ⟨rfl, (((Below.refl _ _).alloc (Nat.le_refl _) _).alloc (by simp) _).drew⟩
                | refine bodyPost_ret (results_cell_tmp1 rfl _ _ _ _ _ _ _ rfl (heap_alloc2_new w _ _) Try.underlying203 rfl info_num) rfl ⟨rfl, (((Below.refl _ _).alloc (Nat.le_refl _) _).alloc (by simp) _).drew⟩
                | refine bodyPost_ret (results_cell_tmp1 rfl _ _ _ _ _ _ _ rfl (heap_alloc_new w _) Try.underlying203 rfl info_num) rfl ⟨rfl, ((Below.refl _ _).alloc (Nat.le_refl _) _).drew⟩
          | false =>
            have hr : numPush tag n at_ first b = some (numC tag n (at_ + 1) first) := by simp only [numPush, t1, t2, t3, t4, t5, if_true, Bool.false_eq_true, if_false, Bool.true_and, Bool.false_and, Bool.and_true, Bool.and_false, Bool.or_true, Bool.or_false, Bool.true_or, Bool.false_or, Bool.not_true, Bool.not_false, Option.map_some, Option.map_none]
            rw [hr]
            clear hr
            go_enter Try.func183, Try.ntmps183
            go_wp2_with fail
            first
              | refine bodyPost_ret (results_cell_tmp1 rfl _ _ _ _ _ _ _ rfl (heap_alloc_new w _) Try.underlying203 rfl info_num) rfl ⟨rfl, (Below.refl _ _).alloc (Nat.le_refl _) _⟩
              | refine bodyPost_ret (results_cell_tmp1 rfl _ _ _ _ _ _ _ rfl (heap_alloc2_old w _ _) Try.underlying203 rfl info_num) rfl ⟨rfl, ((Below.refl _ _).alloc (Nat.le_refl _) _).alloc (by simp) _⟩
              | refine bodyPost_ret (results_cell_tmp1 rfl _ _ _ _ _ _ _ rfl (heap_alloc2_new w _ _) Try.underlying203 rfl info_num) rfl ⟨rfl, ((Below.refl _ _).alloc (Nat.le_refl _) _).alloc (by simp) _⟩
              | refine bodyPost_ret (results_cell_tmp1 rfl _ _ _ _ _ _ _ rfl (heap_alloc2_old w _ _) Try.underlying203 rfl info_num) rfl ⟨rfl, (((Below.refl _ _).alloc (Nat.le_refl _) _).alloc (by simp) _).drew⟩
              | refine bodyPost_ret (results_cell_tmp1 rfl _ _ _ _ _ _ _ rfl (heap_alloc2_new w _ _) Try.underlying203 rfl info_num) rfl ⟨rfl, (((Below.refl _ _).alloc (Nat.le_refl _) _).alloc (by simp) _).drew⟩
              | refine bodyPost_ret (results_cell_tmp1 rfl _ _ _ _ _ _ _ rfl (heap_alloc_new w _) Try.underlying203 rfl info_num) rfl ⟨rfl, ((Below.refl _ _).alloc (Nat.le_refl _) _).drew⟩
      | false =>
        cases t4 : (at_ == 0) with
        | true =>
          have hr : numPush tag n at_ first b = some (numC tag n (at_ + 1) b) := by simp only [numPush, t1, t2, t3, t4, if_true, Bool.false_eq_true, if_false, Bool.true_and, Bool.false_and, Bool.and_true, Bool.and_false, Bool.or_true, Bool.or_false, Bool.true_or, Bool.false_or, Bool.not_true, Bool.not_false, Option.map_some, Option.map_none]
          rw [hr]
          clear hr
          go_enter Try.func183, Try.ntmps183
          go_wp2_with fail
          first
            | refine bodyPost_ret (results_cell_tmp1 rfl _ _ _ _ _ _ _ rfl (heap_alloc_new w _) Try.underlying203 rfl info_num) rfl ⟨rfl, (Below.refl _ _).alloc (Nat.le_refl _) _⟩
            | refine bodyPost_ret (results_cell_tmp1 rfl _ _ _ _ _ _ _ rfl (heap_alloc2_old w _ _) Try.underlying203 rfl info_num) rfl ⟨rfl, ((Below.refl _ _).alloc (Nat.le_refl _) _).alloc (by simp) _⟩
            | refine bodyPost_ret (results_cell_tmp1 rfl _ _ _ _ _ _ _ rfl (heap_alloc2_new w _ _) Try.underlying203 rfl info_num) rfl ⟨rfl, ((Below.refl _ _).alloc (Nat.le_refl _) _).alloc (by simp) _⟩
            | refine bodyPost_ret (results_cell_tmp1 rfl _ _ _ _ _ _ _ rfl (heap_alloc2_old w _ _) Try.underlying203 rfl info_num) rfl ⟨rfl, (((Below.refl _ _).alloc (Nat.le_refl _) _).alloc (by simp) _).drew⟩
            | refine bodyPost_ret (results_cell_tmp1 rfl _ _ _ _ _ _ _ rfl (heap_alloc2_new w _ _) Try.underlying203 rfl info_num) rfl ⟨rfl, (((Below.refl _ _).alloc (Nat.le_refl _) _).alloc (by simp) _).drew⟩
            | refine bodyPost_ret (results_cell_tmp1 rfl _ _ _ _ _ _ _ rfl (heap_alloc_new w _) Try.underlying203 rfl info_num) rfl ⟨rfl, ((Below.refl _ _).alloc (Nat.le_refl _) _).drew⟩
        | false =>
          have hr : numPush tag n at_ first b = some (numC tag n (at_ + 1) first) := by simp only [numPush, t1, t2, t3, t4, if_true, Bool.false_eq_true, if_false, Bool.true_and, Bool.false_and, Bool.and_true, Bool.and_false, Bool.or_true, Bool.or_false, Bool.true_or, Bool.false_or, Bool.not_true, Bool.not_false, Option.map_some, Option.map_none]
          rw [hr]
          clear hr
          go_enter Try.func183, Try.ntmps183
          go_wp2_with fail
          first
            | refine bodyPost_ret (results_cell_tmp1 rfl _ _ _ _ _ _ _ rfl (heap_alloc_new w _) Try.underlying203 rfl info_num) rfl ⟨rfl, (Below.refl _ _).alloc (Nat.le_refl _) _⟩
            | refine bodyPost_ret (results_cell_tmp1 rfl _ _ _ _ _ _ _ rfl (heap_alloc2_old w _ _) Try.underlying203 rfl info_num) rfl ⟨rfl, ((Below.refl _ _).alloc (Nat.le_refl _) _).alloc (by simp) _⟩
            | refine bodyPost_ret (results_cell_tmp1 rfl _ _ _ _ _ _ _ rfl (heap_alloc2_new w _ _) Try.underlying203 rfl info_num) rfl ⟨rfl, ((Below.refl _ _).alloc (Nat.le_refl _) _).alloc (by simp) _⟩
            | refine bodyPost_ret (results_cell_tmp1 rfl _ _ _ _ _ _ _ rfl (heap_alloc2_old w _ _) Try.underlying203 rfl info_num) rfl ⟨rfl, (((Below.refl _ _).alloc (Nat.le_refl _) _).alloc (by simp) _).drew⟩
            | refine bodyPost_ret (results_cell_tmp1 rfl _ _ _ _ _ _ _ rfl (heap_alloc2_new w _ _) Try.underlying203 rfl info_num) rfl ⟨rfl, (((Below.refl _ _).alloc (Nat.le_refl _) _).alloc (by simp) _).drew⟩
            | refine bodyPost_ret (results_cell_tmp1 rfl _ _ _ _ _ _ _ rfl (heap_alloc_new w _) Try.underlying203 rfl info_num) rfl ⟨rfl, ((Below.refl _ _).alloc (Nat.le_refl _) _).drew⟩
    | false =>
      cases t3 : (tag == 10) with
      | true =>
        cases t4 : (at_ == 1) with
        | true =>
          have t4a : (at_ == 0) = false := by have := eq_of_beq t4; rw [this]; rfl
          cases t5 : (first == 0) with
          | true =>
            have t5a : (first == 255) = false := by have := eq_of_beq t5; rw [this]; rfl
            cases t6 : decide (b < 128) with
            | true =>
              have t6a : decide (128 ≤ b) = false := by have := of_decide_eq_true t6; exact decide_eq_false (by omega)
              have hr : numPush tag n at_ first b = none := by simp only [numPush, t1, t2, t3, t4, t5, t6, if_true, Bool.false_eq_true, if_false, Bool.true_and, Bool.false_and, Bool.and_true, Bool.and_false, Bool.or_true, Bool.or_false, Bool.true_or, Bool.false_or, Bool.not_true, Bool.not_false, Option.map_some, Option.map_none]
              rw [hr]
              clear hr
              go_enter Try.func183, Try.ntmps183
              go_wp2_with fail
              first
                | refine bodyPost_ret (results_cell_tmp1 rfl _ _ _ _ _ _ _ rfl (heap_alloc_new w _) Try.underlying203 rfl info_num) rfl ⟨rfl, (Below.refl _ _).alloc (Nat.le_refl _) _⟩
                | refine bodyPost_ret (results_cell_tmp1 rfl _ _ _ _ _ _ _ rfl (heap_alloc2_old w _ _) Try.underlying203 rfl info_num) rfl ⟨rfl, ((Below.refl _ _).alloc (Nat.le_refl _) _).alloc (by simp) _⟩
                | refine bodyPost_ret (results_cell_tmp1 rfl _ _ _ _ _ _ _ rfl (heap_alloc2_new w _ _) Try.underlying203 rfl info_num) rfl ⟨rfl, ((Below.refl _ _).alloc (Nat.le_refl _) _).alloc (by simp) _⟩
                | refine bodyPost_ret (results_cell_tmp1 rfl _ _ _ _ _ _ _ rfl (heap_alloc2_old w _ _) Try.underlying203 rfl info_num) rfl ⟨rfl, (((Below.refl _ _).alloc (Nat.le_refl _) _).alloc (by simp) _).drew⟩
                | refine bodyPost_ret (results_cell_tmp1 rfl _ _ _ _ _ _ _ rfl (heap_alloc2_new w _ _) Try.underlying203 rfl info_num) rfl ⟨rfl, (((Below.refl _ _).alloc (Nat.le_refl _) _).alloc (by simp) _).drew⟩
                | refine bodyPost_ret (results_cell_tmp1 rfl _ _ _ _ _ _ _ rfl (heap_alloc_new w _) Try.underlying203 rfl info_num) rfl ⟨rfl, ((Below.refl _ _).alloc (Nat.le_refl _) _).drew⟩
            | false =>
              have t6a : decide (128 ≤ b) = true := by have := of_decide_eq_false t6; exact decide_eq_true (by omega)
              have hr : numPush tag n at_ first b = some (numC tag n (at_ + 1) first) := by simp only [numPush, t1, t2, t3, t4, t5, t6, if_true, Bool.false_eq_true, if_false, Bool.true_and, Bool.false_and, Bool.and_true, Bool.and_false, Bool.or_true, Bool.or_false, Bool.true_or, Bool.false_or, Bool.not_true, Bool.not_false, Option.map_some, Option.map_none]
              rw [hr]
              clear hr
              go_enter Try.func183, Try.ntmps183
              go_wp2_with fail
              first
                | refine bodyPost_ret (results_cell_tmp1 rfl _ _ _ _ _ _ _ rfl (heap_alloc_new w _) Try.underlying203 rfl info_num) rfl ⟨rfl, (Below.refl _ _).alloc (Nat.le_refl _) _⟩
                | refine bodyPost_ret (results_cell_tmp1 rfl _ _ _ _ _ _ _ rfl (heap_alloc2_old w _ _) Try.underlying203 rfl info_num) rfl ⟨rfl, ((Below.refl _ _).alloc (Nat.le_refl _) _).alloc (by simp) _⟩
                | refine bodyPost_ret (results_cell_tmp1 rfl _ _ _ _ _ _ _ rfl (heap_alloc2_new w _ _) Try.underlying203 rfl info_num) rfl ⟨rfl, ((Below.refl _ _).alloc (Nat.le_refl _) _).alloc (by simp) _⟩
                | refine bodyPost_ret (results_cell_tmp1 rfl _ _ _ _ _ _ _ rfl (heap_alloc2_old w _ _) Try.underlying203 rfl info_num) rfl ⟨rfl, (((Below.refl _ _).alloc (Nat.le_refl _) _).alloc (by simp) _).drew⟩
                | refine bodyPost_ret (results_cell_tmp1 rfl _ _ _ _ _ _ _ rfl (heap_alloc2_new w _ _) Try.underlying203 rfl info_num) rfl ⟨rfl, (((Below.refl _ _).alloc (Nat.le_refl _) _).alloc (by simp) _).drew⟩
                | refine bodyPost_ret (results_cell_tmp1 rfl _ _ _ _ _ _ _ rfl (heap_alloc_new w _) Try.underlying203 rfl info_num) rfl ⟨rfl, ((Below.refl _ _).alloc (Nat.le_refl _) _).drew⟩
          | false =>
            cases t6 : (first == 255) with
            | true =>
              cases t7 : decide (b < 128) with
              | true =>
                have t7a : decide (128 ≤ b) = false := by have := of_decide_eq_true t7; exact decide_eq_false (by omega)
                have hr : numPush tag n at_ first b = some (numC tag n (at_ + 1) first) := by simp only [numPush, t1, t2, t3, t4, t5, t6, t7, if_true, Bool.false_eq_true, if_false, Bool.true_and, Bool.false_and, Bool.and_true, Bool.and_false, Bool.or_true, Bool.or_false, Bool.true_or, Bool.false_or, Bool.not_true, Bool.not_false, Option.map_some, Option.map_none]
                rw [hr]
                clear hr
                go_enter Try.func183, Try.ntmps183
                go_wp2_with fail
                first
                  | refine bodyPost_ret (results_cell_tmp1 rfl _ _ _ _ _ _ _ rfl (heap_alloc_new w _) Try.underlying203 rfl info_num) rfl ⟨rfl, (Below.refl _ _).alloc (Nat.le_refl _) _⟩
                  | refine bodyPost_ret (results_cell_tmp1 rfl _ _ _ _ _ _ _ rfl (heap_alloc2_old w _ _) Try.underlying203 rfl info_num) rfl ⟨rfl, ((Below.refl _ _).alloc (Nat.le_refl _) _).alloc (by simp) _⟩
                  | refine bodyPost_ret (results_cell_tmp1 rfl _ _ _ _ _ _ _ rfl (heap_alloc2_new w _ _) Try.underlying203 rfl info_num) rfl ⟨rfl, ((Below.refl _ _).alloc (Nat.le_refl _) _).alloc (by simp) _⟩
                  | refine bodyPost_ret (results_cell_tmp1 rfl _ _ _ _ _ _ _ rfl (heap_alloc2_old w _ _) Try.underlying203 rfl info_num) rfl ⟨rfl, (((Below.refl _ _).alloc (Nat.le_refl _) _).alloc (by simp) _).drew⟩
                  | refine bodyPost_ret (results_cell_tmp1 rfl _ _ _ _ _ _ _ rfl (heap_alloc2_new w _ _) Try.underlying203 rfl info_num) rfl ⟨rfl, (((Below.refl _ _).alloc (Nat.le_refl _) _).alloc (by simp) _).drew⟩
                  | refine bodyPost_ret (results_cell_tmp1 rfl _ _ _ _ _ _ _ rfl (heap_alloc_new w _) Try.underlying203 rfl info_num) rfl ⟨rfl, ((Below.refl _ _).alloc (Nat.le_refl _) _).drew⟩
              | false =>
                have t7a : decide (128 ≤ b) = true := by have := of_decide_eq_false t7; exact decide_eq_true (by omega)
                have hr : numPush tag n at_ first b = none := by simp only [numPush, t1, t2, t3, t4, t5, t6, t7, if_true, Bool.false_eq_true, if_false, Bool.true_and, Bool.false_and, Bool.and_true, Bool.and_false, Bool.or_true, Bool.or_false, Bool.true_or, Bool.false_or, Bool.not_true, Bool.not_false, Option.map_some, Option.map_none]
                rw [hr]
                clear hr
                go_enter Try.func183, Try.ntmps183
                go_wp2_with fail
                first
                  | refine bodyPost_ret (results_cell_tmp1 rfl _ _ _ _ _ _ _ rfl (heap_alloc_new w _) Try.underlying203 rfl info_num) rfl ⟨rfl, (Below.refl _ _).alloc (Nat.le_refl _) _⟩
                  | refine bodyPost_ret (results_cell_tmp1 rfl _ _ _ _ _ _ _ rfl (heap_alloc2_old w _ _) Try.underlying203 rfl info_num) rfl ⟨rfl, ((Below.refl _ _).alloc (Nat.le_refl _) _).alloc (by simp) _⟩
                  | refine bodyPost_ret (results_cell_tmp1 rfl _ _ _ _ _ _ _ rfl (heap_alloc2_new w _ _) Try.underlying203 rfl info_num) rfl ⟨rfl, ((Below.refl _ _).alloc (Nat.le_refl _) _).alloc (by simp) _⟩
                  | refine bodyPost_ret (results_cell_tmp1 rfl _ _ _ _ _ _ _ rfl (heap_alloc2_old w _ _) Try.underlying203 rfl info_num) rfl ⟨rfl, (((Below.refl _ _).alloc (Nat.le_refl _) _).alloc (by simp) _).drew⟩
                  | refine bodyPost_ret (results_cell_tmp1 rfl _ _ _ _ _ _ _ rfl (heap_alloc2_new w _ _) Try.underlying203 rfl info_num) rfl ⟨rfl, (((Below.refl _ _).alloc (Nat.le_refl _) _).alloc (by simp) _).drew⟩
                  | refine bodyPost_ret (results_cell_tmp1 rfl _ _ _ _ _ _ _ rfl (heap_alloc_new w _) Try.underlying203 rfl info_num) rfl ⟨rfl, ((Below.refl _ _).alloc (Nat.le_refl _) _).drew⟩
            | false =>
              have hr : numPush tag n at_ first b = some (numC tag n (at_ + 1) first) := by simp only [numPush, t1, t2, t3, t4, t5, t6, if_true, Bool.false_eq_true, if_false, Bool.true_and, Bool.false_and, Bool.and_true, Bool.and_false, Bool.or_true, Bool.or_false, Bool.true_or, Bool.false_or, Bool.not_true, Bool.not_false, Option.map_some, Option.map_none]
              rw [hr]
              clear hr
              go_enter Try.func183, Try.ntmps183
              go_wp2_with fail
              first
                | refine bodyPost_ret (results_cell_tmp1 rfl _ _ _ _ _ _ _ rfl (heap_alloc_new w _) Try.underlying203 rfl info_num) rfl ⟨rfl, (Below.refl _ _).alloc (Nat.le_refl _) _⟩
                | refine bodyPost_ret (results_cell_tmp1 rfl _ _ _ _ _ _ _ rfl (heap_alloc2_old w _ _) Try.underlying203 rfl info_num) rfl ⟨rfl, ((Below.refl _ _).alloc (Nat.le_refl _) _).alloc (by simp) _⟩
                | refine bodyPost_ret (results_cell_tmp1 rfl _ _ _ _ _ _ _ rfl (heap_alloc2_new w _ _) Try.underlying203 rfl info_num) rfl ⟨rfl, ((Below.refl _ _).alloc (Nat.le_refl _) _).alloc (by simp) _⟩
                | refine bodyPost_ret (results_cell_tmp1 rfl _ _ _ _ _ _ _ rfl (heap_alloc2_old w _ _) Try.underlying203 rfl info_num) rfl ⟨rfl, (((Below.refl _ _).alloc (Nat.le_refl _) _).alloc (by simp) _).drew⟩
                | refine bodyPost_ret (results_cell_tmp1 rfl _ _ _ _ _ _ _ rfl (heap_alloc2_new w _ _) Try.underlying203 rfl info_num) rfl ⟨rfl, (((Below.refl _ _).alloc (Nat.le_refl _) _).alloc (by simp) _).drew⟩
                | refine bodyPost_ret (results_cell_tmp1 rfl _ _ _ _ _ _ _ rfl (heap_alloc_new w _) Try.underlying203 rfl info_num) rfl ⟨rfl, ((Below.refl _ _).alloc (Nat.le_refl _) _).drew⟩
        | false =>
          cases t5 : (at_ == 0) with
          | true =>
            have hr : numPush tag n at_ first b = some (numC tag n (at_ + 1) b) := by simp only [numPush, t1, t2, t3, t4, t5, if_true, Bool.false_eq_true, if_false, Bool.true_and, Bool.false_and, Bool.and_true, Bool.and_false, Bool.or_true, Bool.or_false, Bool.true_or, Bool.false_or, Bool.not_true, Bool.not_false, Option.map_some, Option.map_none]
            rw [hr]
            clear hr
            go_enter Try.func183, Try.ntmps183
            go_wp2_with fail
            first
              | refine bodyPost_ret (results_cell_tmp1 rfl _ _ _ _ _ _ _ rfl (heap_alloc_new w _) Try.underlying203 rfl info_num) rfl ⟨rfl, (Below.refl _ _).alloc (Nat.le_refl _) _⟩
              | refine bodyPost_ret (results_cell_tmp1 rfl _ _ _ _ _ _ _ rfl (heap_alloc2_old w _ _) Try.underlying203 rfl info_num) rfl ⟨rfl, ((Below.refl _ _).alloc (Nat.le_refl _) _).alloc (by simp) _⟩
              | refine bodyPost_ret (results_cell_tmp1 rfl _ _ _ _ _ _ _ rfl (heap_alloc2_new w _ _) Try.underlying203 rfl info_num) rfl ⟨rfl, ((Below.refl _ _).alloc (Nat.le_refl _) _).alloc (by simp) _⟩
              | refine bodyPost_ret (results_cell_tmp1 rfl _ _ _ _ _ _ _ rfl (heap_alloc2_old w _ _) Try.underlying203 rfl info_num) rfl ⟨rfl, (((Below.refl _ _).alloc (Nat.le_refl _) _).alloc (by simp) _).drew⟩
              | refine bodyPost_ret (results_cell_tmp1 rfl _ _ _ _ _ _ _ rfl (heap_alloc2_new w _ _) Try.underlying203 rfl info_num) rfl ⟨rfl, (((Below.refl _ _).alloc (Nat.le_refl _) _).alloc (by simp) _).drew⟩
              | refine bodyPost_ret (results_cell_tmp1 rfl _ _ _ _ _ _ _ rfl (heap_alloc_new w _) Try.underlying203 rfl info_num) rfl ⟨rfl, ((Below.refl _ _).alloc (Nat.le_refl _) _).drew⟩
          | false =>
            have hr : numPush tag n at_ first b = some (numC tag n (at_ + 1) first) := by simp only [numPush, t1, t2, t3, t4, t5, if_true, Bool.false_eq_true, if_false, Bool.true_and, Bool.false_and, Bool.and_true, Bool.and_false, Bool.or_true, Bool.or_false, Bool.true_or, Bool.false_or, Bool.not_true, Bool.not_false, Option.map_some, Option.map_none]
            rw [hr]
            clear hr
            go_enter Try.func183, Try.ntmps183
            go_wp2_with fail
            first
              | refine bodyPost_ret (results_cell_tmp1 rfl _ _ _ _ _ _ _ rfl (heap_alloc_new w _) Try.underlying203 rfl info_num) rfl ⟨rfl, (Below.refl _ _).alloc (Nat.le_refl _) _⟩
              | refine bodyPost_ret (results_cell_tmp1 rfl _ _ _ _ _ _ _ rfl (heap_alloc2_old w _ _) Try.underlying203 rfl info_num) rfl ⟨rfl, ((Below.refl _ _).alloc (Nat.le_refl _) _).alloc (by simp) _⟩
              | refine bodyPost_ret (results_cell_tmp1 rfl _ _ _ _ _ _ _ rfl (heap_alloc2_new w _ _) Try.underlying203 rfl info_num) rfl ⟨rfl, ((Below.refl _ _).alloc (Nat.le_refl _) _).alloc (by simp) _⟩
              | refine bodyPost_ret (results_cell_tmp1 rfl _ _ _ _ _ _ _ rfl (heap_alloc2_old w _ _) Try.underlying203 rfl info_num) rfl ⟨rfl, (((Below.refl _ _).alloc (Nat.le_refl _) _).alloc (by simp) _).drew⟩
              | refine bodyPost_ret (results_cell_tmp1 rfl _ _ _ _ _ _ _ rfl (heap_alloc2_new w _ _) Try.underlying203 rfl info_num) rfl ⟨rfl, (((Below.refl _ _).alloc (Nat.le_refl _) _).alloc (by simp) _).drew⟩
              | refine bodyPost_ret (results_cell_tmp1 rfl _ _ _ _ _ _ _ rfl (heap_alloc_new w _) Try.underlying203 rfl info_num) rfl ⟨rfl, ((Below.refl _ _).alloc (Nat.le_refl _) _).drew⟩
      | false =>
        cases t4 : (at_ == 0) with
        | true =>
          have hr : numPush tag n at_ first b = some (numC tag n (at_ + 1) b) := by simp only [numPush, t1, t2, t3, t4, if_true, Bool.false_eq_true, if_false, Bool.true_and, Bool.false_and, Bool.and_true, Bool.and_false, Bool.or_true, Bool.or_false, Bool.true_or, Bool.false_or, Bool.not_true, Bool.not_false, Option.map_some, Option.map_none]
          rw [hr]
          clear hr
          go_enter Try.func183, Try.ntmps183
          go_wp2_with fail
          first
            | refine bodyPost_ret (results_cell_tmp1 rfl _ _ _ _ _ _ _ rfl (heap_alloc_new w _) Try.underlying203 rfl info_num) rfl ⟨rfl, (Below.refl _ _).alloc (Nat.le_refl _) _⟩
            | refine bodyPost_ret (results_cell_tmp1 rfl _ _ _ _ _ _ _ rfl (heap_alloc2_old w _ _) Try.underlying203 rfl info_num) rfl ⟨rfl, ((Below.refl _ _).alloc (Nat.le_refl _) _).alloc (by simp) _⟩
            | refine bodyPost_ret (results_cell_tmp1 rfl _ _ _ _ _ _ _ rfl (heap_alloc2_new w _ _) Try.underlying203 rfl info_num) rfl ⟨rfl, ((Below.refl _ _).alloc (Nat.le_refl _) _).alloc (by simp) _⟩
            | refine bodyPost_ret (results_cell_tmp1 rfl _ _ _ _ _ _ _ rfl (heap_alloc2_old w _ _) Try.underlying203 rfl info_num) rfl ⟨rfl, (((Below.refl _ _).alloc (Nat.le_refl _) _).alloc (by simp) _).drew⟩
            | refine bodyPost_ret (results_cell_tmp1 rfl _ _ _ _ _ _ _ rfl (heap_alloc2_new w _ _) Try.underlying203 rfl info_num) rfl ⟨rfl, (((Below.refl _ _).alloc (Nat.le_refl _) _).alloc (by simp) _).drew⟩
            | refine bodyPost_ret (results_cell_tmp1 rfl _ _ _ _ _ _ _ rfl (heap_alloc_new w _) Try.underlying203 rfl info_num) rfl ⟨rfl, ((Below.refl _ _).alloc (Nat.le_refl _) _).drew⟩
        | false =>
          have hr : numPush tag n at_ first b = some (numC tag n (at_ + 1) first) := by simp only [numPush, t1, t2, t3, t4, if_true, Bool.false_eq_true, if_false, Bool.true_and, Bool.false_and, Bool.and_true, Bool.and_false, Bool.or_true, Bool.or_false, Bool.true_or, Bool.false_or, Bool.not_true, Bool.not_false, Option.map_some, Option.map_none]
          rw [hr]
          clear hr
          go_enter Try.func183, Try.ntmps183
          go_wp2_with fail
          first
            | refine bodyPost_ret (results_cell_tmp1 rfl _ _ _ _ _ _ _ rfl (heap_alloc_new w _) Try.underlying203 rfl info_num) rfl ⟨rfl, (Below.refl _ _).alloc (Nat.le_refl _) _⟩
            | refine bodyPost_ret (results_cell_tmp1 rfl _ _ _ _ _ _ _ rfl (heap_alloc2_old w _ _) Try.underlying203 rfl info_num) rfl ⟨rfl, ((Below.refl _ _).alloc (Nat.le_refl _) _).alloc (by simp) _⟩
            | refine bodyPost_ret (results_cell_tmp1 rfl _ _ _ _ _ _ _ rfl (heap_alloc2_new w _ _) Try.underlying203 rfl info_num) rfl ⟨rfl, ((Below.refl _ _).alloc (Nat.le_refl _) _).alloc (by simp) _⟩
            | refine bodyPost_ret (results_cell_tmp1 rfl _ _ _ _ _ _ _ rfl (heap_alloc2_old w _ _) Try.underlying203 rfl info_num) rfl ⟨rfl, (((Below.refl _ _).alloc (Nat.le_refl _) _).alloc (by simp) _).drew⟩
            | refine bodyPost_ret (results_cell_tmp1 rfl _ _ _ _ _ _ _ rfl (heap_alloc2_new w _ _) Try.underlying203 rfl info_num) rfl ⟨rfl, (((Below.refl _ _).alloc (Nat.le_refl _) _).alloc (by simp) _).drew⟩
            | refine bodyPost_ret (results_cell_tmp1 rfl _ _ _ _ _ _ _ rfl (heap_alloc_new w _) Try.underlying203 rfl info_num) rfl ⟨rfl, ((Below.refl _ _).alloc (Nat.le_refl _) _).drew⟩
end Go.Proofs.Ytkabmmpccfeffaa
