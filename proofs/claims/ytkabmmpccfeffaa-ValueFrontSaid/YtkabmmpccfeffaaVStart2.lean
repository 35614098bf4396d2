/- Layer 15 (value): start, by contract; a content's next byte. -/
import Derived.Test.YtkabmmpccfeffaaVStart
namespace Go.Proofs.Ytkabmmpccfeffaa
open Go.RowKit
set_option linter.unusedVariables false
set_option linter.unusedSimpArgs false
/-- How a content of a universal tag begins. -/
def cStart (tag len : Int) : Option CSt :=
  if (tag == 0) = true then none else if (tag == 16) = true then none else if (tag == 17) = true then none
  else if (tag == 1) = true then (numStart tag len).map decNum else if (tag == 2) = true then (numStart tag len).map decNum
  else if (tag == 5) = true then (numStart tag len).map decNum else if (tag == 10) = true then (numStart tag len).map decNum
  else if (tag == 6) = true then (oidStart len).map decOid else if (tag == 3) = true then (bitStart len).map decBit
  else if (tag == 23) = true then (whnStart tag len).map decWhn else if (tag == 24) = true then (whnStart tag len).map decWhn
  else (txtStart tag len).map decTxt
theorem numStart_form (tag len : Int) : numStart tag len = none ∨ ∃ y0 y1 y2 y3, numStart tag len = some (numC y0 y1 y2 y3) := by
  unfold numStart
  repeat' (first | exact .inl rfl | exact .inr ⟨_, _, _, _, rfl⟩ | split)
theorem oidStart_form (len : Int) : oidStart len = none ∨ ∃ y0 y1, oidStart len = some (oidC y0 y1) := by
  unfold oidStart
  repeat' (first | exact .inl rfl | exact .inr ⟨_, _, rfl⟩ | split)
theorem bitStart_form (len : Int) : bitStart len = none ∨ ∃ y0 y1 y2, bitStart len = some (bitC y0 y1 y2) := by
  unfold bitStart
  repeat' (first | exact .inl rfl | exact .inr ⟨_, _, _, rfl⟩ | split)
theorem whnStart_form (tag len : Int) : whnStart tag len = none ∨ ∃ y0 y1 y2, whnStart tag len = some (whnC y0 y1 y2) := by
  unfold whnStart
  repeat' (first | exact .inl rfl | exact .inr ⟨_, _, _, rfl⟩ | split)
theorem txtStart_form (tag len : Int) : txtStart tag len = none ∨ ∃ y0 y1 y2 y3 y4, txtStart tag len = some (txtC y0 y1 y2 y3 y4) := by
  unfold txtStart
  repeat' (first | exact .inl rfl | exact .inr ⟨_, _, _, _, _, rfl⟩ | split)

set_option maxRecDepth 100000 in
set_option maxHeartbeats 1000000 in
theorem start_none (w : World) (cl tag : Int) (cons : Bool) (len : Int) (h : tag = 0 ∨ tag = 16 ∨ tag = 17) : Calls Try.prog 107 #[.agg #[.int .i64 cl, .int .i64 tag, .bool cons, .int .i64 len]] w (PuPost w (cStart tag len)) := by
  have e1 : cStart tag len = none := by rcases h with rfl | rfl | rfl <;> rfl
  rw [e1]
  clear e1
  rcases h with rfl | rfl | rfl
  all_goals
    go_enter Try.func107, Try.ntmps107
    go_wp2_with fail
    go_ret2
    exact ⟨fun _ => rfl, (fun st h => by cases h), (Below.refl _ _).alloc (Nat.le_refl _) _⟩

set_option maxRecDepth 100000 in
set_option maxHeartbeats 1000000 in
theorem start_num (w : World) (cl tag : Int) (cons : Bool) (len : Int) (h : tag = 1 ∨ tag = 2 ∨ tag = 5 ∨ tag = 10) : Calls Try.prog 107 #[.agg #[.int .i64 cl, .int .i64 tag, .bool cons, .int .i64 len]] w (PuPost w (cStart tag len)) := by
  have e1 : cStart tag len = (numStart tag len).map decNum := by rcases h with rfl | rfl | rfl | rfl <;> rfl
  rw [e1]
  clear e1
  have sa := fun W => numStart_any W tag len
  have fm := numStart_form tag len
  unfold StPost at sa
  generalize numStart tag len = r at sa fm ⊢
  rcases fm with rfl | ⟨y0, y1, y2, y3, rfl⟩
  · have SA := Lib.hid sa
    clear sa
    rcases h with rfl | rfl | rfl | rfl
    all_goals
      go_enter Try.func107, Try.ntmps107
      go_wp2_with fail
      refine (SA.out _).mono ?_
      rintro e w1 ⟨rfl, hb1⟩
      have HB1 := Lib.hid (((Below.refl w.heap.size w).alloc (Nat.le_refl _) _).trans (hb1.mono (by simp)))
      clear hb1
      simp only [Option.getD_none, Option.isSome_none, numZ]
      go_wp2_with fail
      refine (wrap_number_no _ _ _ _ _).mono ?_
      rintro e w2 ⟨ha, _, hb2⟩
      obtain rfl := ha rfl
      have HB2 := Lib.hid (HB1.out.trans (hb2.mono HB1.out.size))
      clear hb2 ha
      go_wp2_with fail
      go_ret2
      exact ⟨fun _ => rfl, (fun st h => by cases h), HB2.out⟩
  · have SA := Lib.hid sa
    clear sa
    rcases h with rfl | rfl | rfl | rfl
    all_goals
      go_enter Try.func107, Try.ntmps107
      go_wp2_with fail
      refine (SA.out _).mono ?_
      rintro e w1 ⟨rfl, hb1⟩
      have HB1 := Lib.hid (((Below.refl w.heap.size w).alloc (Nat.le_refl _) _).trans (hb1.mono (by simp)))
      clear hb1
      simp only [Option.getD_some, Option.isSome_some, numC]
      go_wp2_with fail
      refine (wrap_number_ok _ _ _ _ _).mono ?_
      rintro e w2 h2
      obtain ⟨_, ha, hb2⟩ := pu_num h2 (.inr ⟨_, _, _, _, rfl⟩)
      obtain ⟨F, caps, rfl, hv⟩ := ha _ rfl
      have HB2 := Lib.hid (HB1.out.trans (hb2.mono HB1.out.size))
      have HV := Lib.hid hv
      clear hb2 ha hv h2
      go_wp2_with fail
      go_ret2
      refine ⟨(fun h => by cases h), fun st h => ?_, HB2.out⟩
      injection h with h
      subst h
      exact ⟨F, caps, rfl, HV.out⟩

set_option maxRecDepth 100000 in
set_option maxHeartbeats 1000000 in
theorem start_oid (w : World) (cl tag : Int) (cons : Bool) (len : Int) (h : tag = 6) : Calls Try.prog 107 #[.agg #[.int .i64 cl, .int .i64 tag, .bool cons, .int .i64 len]] w (PuPost w (cStart tag len)) := by
  have e1 : cStart tag len = (oidStart len).map decOid := by rcases h with rfl <;> rfl
  rw [e1]
  clear e1
  have sa := fun W => oidStart_any W len
  have fm := oidStart_form len
  unfold StPost at sa
  generalize oidStart len = r at sa fm ⊢
  rcases fm with rfl | ⟨y0, y1, rfl⟩
  · have SA := Lib.hid sa
    clear sa
    rcases h with rfl
    all_goals
      go_enter Try.func107, Try.ntmps107
      go_wp2_with fail
      refine (SA.out _).mono ?_
      rintro e w1 ⟨rfl, hb1⟩
      have HB1 := Lib.hid (((Below.refl w.heap.size w).alloc (Nat.le_refl _) _).trans (hb1.mono (by simp)))
      clear hb1
      simp only [Option.getD_none, Option.isSome_none, oidZ]
      go_wp2_with fail
      refine (wrap_oid_no _ _ _).mono ?_
      rintro e w2 ⟨ha, _, hb2⟩
      obtain rfl := ha rfl
      have HB2 := Lib.hid (HB1.out.trans (hb2.mono HB1.out.size))
      clear hb2 ha
      go_wp2_with fail
      go_ret2
      exact ⟨fun _ => rfl, (fun st h => by cases h), HB2.out⟩
  · have SA := Lib.hid sa
    clear sa
    rcases h with rfl
    all_goals
      go_enter Try.func107, Try.ntmps107
      go_wp2_with fail
      refine (SA.out _).mono ?_
      rintro e w1 ⟨rfl, hb1⟩
      have HB1 := Lib.hid (((Below.refl w.heap.size w).alloc (Nat.le_refl _) _).trans (hb1.mono (by simp)))
      clear hb1
      simp only [Option.getD_some, Option.isSome_some, oidC]
      go_wp2_with fail
      refine (wrap_oid_ok _ _ _).mono ?_
      rintro e w2 h2
      obtain ⟨_, ha, hb2⟩ := pu_oid h2 (.inr ⟨_, _, rfl⟩)
      obtain ⟨F, caps, rfl, hv⟩ := ha _ rfl
      have HB2 := Lib.hid (HB1.out.trans (hb2.mono HB1.out.size))
      have HV := Lib.hid hv
      clear hb2 ha hv h2
      go_wp2_with fail
      go_ret2
      refine ⟨(fun h => by cases h), fun st h => ?_, HB2.out⟩
      injection h with h
      subst h
      exact ⟨F, caps, rfl, HV.out⟩

set_option maxRecDepth 100000 in
set_option maxHeartbeats 1000000 in
theorem start_bit (w : World) (cl tag : Int) (cons : Bool) (len : Int) (h : tag = 3) : Calls Try.prog 107 #[.agg #[.int .i64 cl, .int .i64 tag, .bool cons, .int .i64 len]] w (PuPost w (cStart tag len)) := by
  have e1 : cStart tag len = (bitStart len).map decBit := by rcases h with rfl <;> rfl
  rw [e1]
  clear e1
  have sa := fun W => bitStart_any W len
  have fm := bitStart_form len
  unfold StPost at sa
  generalize bitStart len = r at sa fm ⊢
  rcases fm with rfl | ⟨y0, y1, y2, rfl⟩
  · have SA := Lib.hid sa
    clear sa
    rcases h with rfl
    all_goals
      go_enter Try.func107, Try.ntmps107
      go_wp2_with fail
      refine (SA.out _).mono ?_
      rintro e w1 ⟨rfl, hb1⟩
      have HB1 := Lib.hid (((Below.refl w.heap.size w).alloc (Nat.le_refl _) _).trans (hb1.mono (by simp)))
      clear hb1
      simp only [Option.getD_none, Option.isSome_none, bitZ]
      go_wp2_with fail
      refine (wrap_bitstr_no _ _ _ _).mono ?_
      rintro e w2 ⟨ha, _, hb2⟩
      obtain rfl := ha rfl
      have HB2 := Lib.hid (HB1.out.trans (hb2.mono HB1.out.size))
      clear hb2 ha
      go_wp2_with fail
      go_ret2
      exact ⟨fun _ => rfl, (fun st h => by cases h), HB2.out⟩
  · have SA := Lib.hid sa
    clear sa
    rcases h with rfl
    all_goals
      go_enter Try.func107, Try.ntmps107
      go_wp2_with fail
      refine (SA.out _).mono ?_
      rintro e w1 ⟨rfl, hb1⟩
      have HB1 := Lib.hid (((Below.refl w.heap.size w).alloc (Nat.le_refl _) _).trans (hb1.mono (by simp)))
      clear hb1
      simp only [Option.getD_some, Option.isSome_some, bitC]
      go_wp2_with fail
      refine (wrap_bitstr_ok _ _ _ _).mono ?_
      rintro e w2 h2
      obtain ⟨_, ha, hb2⟩ := pu_bit h2 (.inr ⟨_, _, _, rfl⟩)
      obtain ⟨F, caps, rfl, hv⟩ := ha _ rfl
      have HB2 := Lib.hid (HB1.out.trans (hb2.mono HB1.out.size))
      have HV := Lib.hid hv
      clear hb2 ha hv h2
      go_wp2_with fail
      go_ret2
      refine ⟨(fun h => by cases h), fun st h => ?_, HB2.out⟩
      injection h with h
      subst h
      exact ⟨F, caps, rfl, HV.out⟩

set_option maxRecDepth 100000 in
set_option maxHeartbeats 1000000 in
theorem start_whn (w : World) (cl tag : Int) (cons : Bool) (len : Int) (h : tag = 23 ∨ tag = 24) : Calls Try.prog 107 #[.agg #[.int .i64 cl, .int .i64 tag, .bool cons, .int .i64 len]] w (PuPost w (cStart tag len)) := by
  have e1 : cStart tag len = (whnStart tag len).map decWhn := by rcases h with rfl | rfl <;> rfl
  rw [e1]
  clear e1
  have sa := fun W => whnStart_any W tag len
  have fm := whnStart_form tag len
  unfold StPost at sa
  generalize whnStart tag len = r at sa fm ⊢
  rcases fm with rfl | ⟨y0, y1, y2, rfl⟩
  · have SA := Lib.hid sa
    clear sa
    rcases h with rfl | rfl
    all_goals
      go_enter Try.func107, Try.ntmps107
      go_wp2_with fail
      refine (SA.out _).mono ?_
      rintro e w1 ⟨rfl, hb1⟩
      have HB1 := Lib.hid (((Below.refl w.heap.size w).alloc (Nat.le_refl _) _).trans (hb1.mono (by simp)))
      clear hb1
      simp only [Option.getD_none, Option.isSome_none, whnZ]
      go_wp2_with fail
      refine (wrap_when_no _ _ _ _).mono ?_
      rintro e w2 ⟨ha, _, hb2⟩
      obtain rfl := ha rfl
      have HB2 := Lib.hid (HB1.out.trans (hb2.mono HB1.out.size))
      clear hb2 ha
      go_wp2_with fail
      go_ret2
      exact ⟨fun _ => rfl, (fun st h => by cases h), HB2.out⟩
  · have SA := Lib.hid sa
    clear sa
    rcases h with rfl | rfl
    all_goals
      go_enter Try.func107, Try.ntmps107
      go_wp2_with fail
      refine (SA.out _).mono ?_
      rintro e w1 ⟨rfl, hb1⟩
      have HB1 := Lib.hid (((Below.refl w.heap.size w).alloc (Nat.le_refl _) _).trans (hb1.mono (by simp)))
      clear hb1
      simp only [Option.getD_some, Option.isSome_some, whnC]
      go_wp2_with fail
      refine (wrap_when_ok _ _ _ _).mono ?_
      rintro e w2 h2
      obtain ⟨_, ha, hb2⟩ := pu_whn h2 (.inr ⟨_, _, _, rfl⟩)
      obtain ⟨F, caps, rfl, hv⟩ := ha _ rfl
      have HB2 := Lib.hid (HB1.out.trans (hb2.mono HB1.out.size))
      have HV := Lib.hid hv
      clear hb2 ha hv h2
      go_wp2_with fail
      go_ret2
      refine ⟨(fun h => by cases h), fun st h => ?_, HB2.out⟩
      injection h with h
      subst h
      exact ⟨F, caps, rfl, HV.out⟩

set_option maxRecDepth 100000 in
set_option maxHeartbeats 1000000 in
theorem start_txt (w : World) (cl tag : Int) (cons : Bool) (len : Int) (t0 : (tag == 0) = false) (t16 : (tag == 16) = false) (t17 : (tag == 17) = false) (t1 : (tag == 1) = false) (t2 : (tag == 2) = false) (t5 : (tag == 5) = false) (t10 : (tag == 10) = false) (t6 : (tag == 6) = false) (t3 : (tag == 3) = false) (t23 : (tag == 23) = false) (t24 : (tag == 24) = false) : Calls Try.prog 107 #[.agg #[.int .i64 cl, .int .i64 tag, .bool cons, .int .i64 len]] w (PuPost w (cStart tag len)) := by
  have e1 : cStart tag len = (txtStart tag len).map decTxt := by simp only [cStart, t0, t16, t17, t1, t2, t5, t10, t6, t3, t23, t24, Bool.false_eq_true, if_false]
  rw [e1]
  clear e1
  have sa := fun W => txtStart_any W tag len
  have fm := txtStart_form tag len
  unfold StPost at sa
  generalize txtStart tag len = r at sa fm ⊢
  rcases fm with rfl | ⟨y0, y1, y2, y3, y4, rfl⟩
  · have SA := Lib.hid sa
    clear sa
    go_enter Try.func107, Try.ntmps107
    go_wp2_with fail
    refine (SA.out _).mono ?_
    rintro e w1 ⟨rfl, hb1⟩
    have HB1 := Lib.hid (((Below.refl w.heap.size w).alloc (Nat.le_refl _) _).trans (hb1.mono (by simp)))
    clear hb1
    simp only [Option.getD_none, Option.isSome_none, txtZ]
    go_wp2_with fail
    refine (wrap_text_no _ _ _ _ _ _).mono ?_
    rintro e w2 ⟨ha, _, hb2⟩
    obtain rfl := ha rfl
    have HB2 := Lib.hid (HB1.out.trans (hb2.mono HB1.out.size))
    clear hb2 ha
    go_wp2_with fail
    go_ret2
    exact ⟨fun _ => rfl, (fun st h => by cases h), HB2.out⟩
  · have SA := Lib.hid sa
    clear sa
    go_enter Try.func107, Try.ntmps107
    go_wp2_with fail
    refine (SA.out _).mono ?_
    rintro e w1 ⟨rfl, hb1⟩
    have HB1 := Lib.hid (((Below.refl w.heap.size w).alloc (Nat.le_refl _) _).trans (hb1.mono (by simp)))
    clear hb1
    simp only [Option.getD_some, Option.isSome_some, txtC]
    go_wp2_with fail
    refine (wrap_text_ok _ _ _ _ _ _).mono ?_
    rintro e w2 h2
    obtain ⟨_, ha, hb2⟩ := pu_txt h2 (.inr ⟨_, _, _, _, _, rfl⟩)
    obtain ⟨F, caps, rfl, hv⟩ := ha _ rfl
    have HB2 := Lib.hid (HB1.out.trans (hb2.mono HB1.out.size))
    have HV := Lib.hid hv
    clear hb2 ha hv h2
    go_wp2_with fail
    go_ret2
    refine ⟨(fun h => by cases h), fun st h => ?_, HB2.out⟩
    injection h with h
    subst h
    exact ⟨F, caps, rfl, HV.out⟩
theorem start_any (w : World) (cl tag : Int) (cons : Bool) (len : Int) : Calls Try.prog 107 #[.agg #[.int .i64 cl, .int .i64 tag, .bool cons, .int .i64 len]] w (PuPost w (cStart tag len)) := by
  by_cases h0 : tag = 0 ∨ tag = 16 ∨ tag = 17
  · exact start_none w cl tag cons len h0
  by_cases h1 : tag = 1 ∨ tag = 2 ∨ tag = 5 ∨ tag = 10
  · exact start_num w cl tag cons len h1
  by_cases h6 : tag = 6
  · exact start_oid w cl tag cons len h6
  by_cases h3 : tag = 3
  · exact start_bit w cl tag cons len h3
  by_cases h23 : tag = 23 ∨ tag = 24
  · exact start_whn w cl tag cons len h23
  have f : ∀ k : Int, tag ≠ k → (tag == k) = false := fun k h => beq_eq_false_iff_ne.2 h
  exact start_txt w cl tag cons len (f _ (by omega)) (f _ (by omega)) (f _ (by omega)) (f _ (by omega)) (f _ (by omega)) (f _ (by omega)) (f _ (by omega)) (f _ (by omega)) (f _ (by omega)) (f _ (by omega)) (f _ (by omega))
end Go.Proofs.Ytkabmmpccfeffaa
