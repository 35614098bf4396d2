/- Layer 15: ValueFront walked. -/
import Derived.Test.YtkabmmpccfeffaaVFront
namespace Go.Proofs.Ytkabmmpccfeffaa
open Go.RowKit
set_option linter.unusedVariables false
set_option linter.unusedSimpArgs false
set_option maxRecDepth 100000 in
set_option maxHeartbeats 4000000 in
theorem valueFront_small (w : World) (b : ByteArray) (n depth : Int) (hb : b.size ≤ 250) (h0 : 0 ≤ n) (h1 : n ≤ b.size) : Calls Try.prog 8 #[.string b, .int .i64 n, .int .i64 depth] w fun e w' => e = .returned (.bool true) ∧ Below w.heap.size w w' := by
  obtain ⟨m, rfl⟩ := Int.eq_ofNat_of_zero_le h0
  have hm : m ≤ b.size := by omega
  have fr := vFront b m depth hm
  have c1 := fun W => vw_any W b depth (by omega)
  have c2 := fun W => vw_any W (b.extract 0 m) depth (by simp; omega)
  unfold VPost at c1 c2
  generalize vWhole b depth = r at c1 fr
  generalize vWhole (b.extract 0 m) depth = q at c2 fr
  obtain ⟨e, at_⟩ := r
  obtain ⟨f, on⟩ := q
  simp only at c1 c2 fr
  have C0 := Lib.hid (fun W => vawake_any W)
  have t1 : decide ((250 : Int) < (b.size : Int)) = false := decide_eq_false (by omega)
  have t2 : decide ((m : Int) < 0) = false := decide_eq_false (by omega)
  have t3 : decide ((b.size : Int) < (m : Int)) = false := decide_eq_false (by omega)
  have t4 : decide (b.size < m) = false := decide_eq_false (by omega)
  have key : (on < m ∧ f = e ∧ on = at_) ∨ (on = m ∧ (f = 0 ∨ f = 2) ∧ (e = 0 ∨ ((e == 0) = false ∧ decide ((m : Int) ≤ at_) = true))) := by
    by_cases hlt : on < m
    · exact .inl ⟨hlt, fr.1 hlt⟩
    · obtain ⟨h1, h2, h3⟩ := fr.2 (by omega)
      refine .inr ⟨h1, h2, ?_⟩
      by_cases he : e = 0
      · exact .inl he
      · exact .inr ⟨beq_eq_false_iff_ne.2 he, decide_eq_true (h3.resolve_left he)⟩
  clear fr
  rcases key with ⟨hlt, rfl, rfl⟩ | ⟨rfl, rfl | rfl, rfl | ⟨q1, q2⟩⟩
  all_goals
    have C1 := Lib.hid c1
    have C2 := Lib.hid c2
    clear c1 c2
    go_enter Try.func8, Try.ntmps8
    go_wp2_with fail
    refine (C0.out _).mono ?_
    rintro e w1 ⟨rfl, hb1⟩
    have B1 := Lib.hid hb1
    clear hb1
    go_wp2_with fail
    refine (C1.out _).mono ?_
    rintro e w2 ⟨rfl, hb2⟩
    have B2 := Lib.hid (B1.out.trans (hb2.mono B1.out.size))
    clear hb2
    go_wp2_with fail
    refine (C2.out _).mono ?_
    rintro e w3 ⟨rfl, hb3⟩
    have B3 := Lib.hid (B2.out.trans (hb3.mono B2.out.size))
    clear hb3
    go_wp2_with fail
    go_ret
    exact ⟨rfl, B3.out⟩
set_option maxRecDepth 100000 in
set_option maxHeartbeats 4000000 in
theorem valueFront_great (w : World) (b : ByteArray) (n depth : Int) (h : 250 < b.size ∨ n < 0 ∨ b.size < n) : Calls Try.prog 8 #[.string b, .int .i64 n, .int .i64 depth] w fun e w' => e = .returned (.bool true) ∧ Below w.heap.size w w' := by
  have key : decide ((250 : Int) < (b.size : Int)) = true ∨ decide ((250 : Int) < (b.size : Int)) = false ∧ decide (n < 0) = true ∨ decide ((250 : Int) < (b.size : Int)) = false ∧ decide (n < 0) = false ∧ decide ((b.size : Int) < n) = true := by
    by_cases h1 : 250 < b.size
    · exact .inl (decide_eq_true (by omega))
    · by_cases h2 : n < 0
      · exact .inr (.inl ⟨decide_eq_false (by omega), decide_eq_true h2⟩)
      · exact .inr (.inr ⟨decide_eq_false (by omega), decide_eq_false h2, decide_eq_true (by omega)⟩)
  have C0 := Lib.hid (fun W => vawake_any W)
  clear h
  rcases key with t1 | ⟨t1, t2⟩ | ⟨t1, t2, t3⟩
  all_goals
    go_enter Try.func8, Try.ntmps8
    go_wp2_with fail
    refine (C0.out _).mono ?_
    rintro e w1 ⟨rfl, hb1⟩
    have B1 := Lib.hid hb1
    clear hb1
    go_wp2_with fail
    refine (C0.out _).mono ?_
    rintro e w2 ⟨rfl, hb2⟩
    have B2 := Lib.hid (B1.out.trans (hb2.mono B1.out.size))
    clear hb2
    go_wp2_with fail
    go_ret
    exact ⟨rfl, B2.out⟩
theorem valueFront_any (w : World) (b : ByteArray) (n depth : Int) : Calls Try.prog 8 #[.string b, .int .i64 n, .int .i64 depth] w fun e w' => e = .returned (.bool true) ∧ Below w.heap.size w w' := by
  by_cases h : 250 < b.size ∨ n < 0 ∨ b.size < n
  · exact valueFront_great w b n depth h
  · exact valueFront_small w b n depth (by omega) (by omega) (by omega)
end Go.Proofs.Ytkabmmpccfeffaa
