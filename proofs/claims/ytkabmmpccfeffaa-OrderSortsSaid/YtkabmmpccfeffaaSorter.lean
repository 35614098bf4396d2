/- package order's Sorter, by contracts: Push, End, Reset, New. -/
import Derived.Test.YtkabmmpccfeffaaOrder
import Derived.Test.YtkabmmpccfeffaaRow
import Derived.BigRegion
namespace Go.Proofs.Ytkabmmpccfeffaa
open Go.RowKit
set_option linter.unusedVariables false
set_option linter.unusedSimpArgs false

theorem info_u8 : (Try.prog.info? 5).map (fun i => (i.zero, i.size, i.bytes)) = some (some (.int .u8 0), 1, 1) := by kernel_rfl

/-- A Sorter lies at block g. -/
def IsSorter (w : World) (B g most : Nat) (last now : List Int) (begun : Bool) (over : Int) : Prop :=
  ∃ A1 A2 c1 c2, w.heap[g]? = some (.cells #[.int .i64 most, .slice A1 last.length c1, .slice A2 now.length c2, .bool begun, .int .i64 over] 95 (0, 0)) ∧ B ≤ g ∧
    w.ownsRow B 5 1 (.slice A1 last.length c1) last.length (nums last) ∧ w.ownsRow B 5 1 (.slice A2 now.length c2) now.length (nums now) ∧
    ((Value.slice A1 last.length c1).ownBlock = none ∨ (Value.slice A1 last.length c1).ownBlock ≠ (Value.slice A2 now.length c2).ownBlock) ∧
    now.length ≤ most ∧ last.length ≤ most ∧ most ≤ 65536

set_option maxRecDepth 100000 in
set_option maxHeartbeats 1000000 in
theorem push_over {w : World} {B g most : Nat} {last now : List Int} {begun : Bool} {over : Int} (h : IsSorter w B g most last now begun over) (b : Int) (ho : over ≠ 0) :
    Calls Try.prog 21 #[.pointer (some ⟨g, 0, none⟩), .int .u8 b] w fun e w' => e = .returned (.int .i64 over) ∧ IsSorter w' B g most last now begun over ∧ Kp B [95, 5] w w' := by
  obtain ⟨A1, A2, c1, c2, hb, rest⟩ := id h
  clear rest
  have h4 : w.cell? ⟨g, 4, none⟩ = some (.int .i64 over) := blk_cell hb 4
  have ho' : (over == 0) = false := by simpa using ho
  have H := Lib.hid h
  have HB := Lib.hid hb
  clear h hb
  go_enter Try.func21, Try.ntmps21
  go_wp2_with fail
  go_quiet (fail)
  go_wp2
  go_ret
  exact ⟨rfl, H.out, (Kp.refl _ _ _).drewN _⟩

set_option maxRecDepth 100000 in
set_option maxHeartbeats 1000000 in
theorem push_full {w : World} {B g most : Nat} {last now : List Int} {begun : Bool} (h : IsSorter w B g most last now begun 0) (b : Int) (ho : now.length = most) :
    Calls Try.prog 21 #[.pointer (some ⟨g, 0, none⟩), .int .u8 b] w fun e w' => e = .returned (.int .i64 11) ∧ IsSorter w' B g most last now begun 11 ∧ Kp B [95, 5] w w' := by
  obtain ⟨A1, A2, c1, c2, hb, hg, rest⟩ := id h
  have h0 : w.cell? ⟨g, 0, none⟩ = some (.int .i64 most) := blk_cell hb 0
  have h2 : w.cell? ⟨g, 2, none⟩ = some (.slice A2 now.length c2) := blk_cell hb 2
  have h4 : w.cell? ⟨g, 4, none⟩ = some (.int .i64 0) := blk_cell hb 4
  have hf := blk_frozen hb 4
  have ho' : ((now.length : Int) == (most : Int)) = true := by simp; omega
  have hfin : IsSorter (w.setCell ⟨g, 4, none⟩ (.int .i64 11)) B g most last now begun 11 := by
    obtain ⟨o1, o2, r⟩ := rest
    exact ⟨A1, A2, c1, c2, by rw [blk_set hb]; rfl, hg, own_setCell o1 (own_ne o1 hb (by decide)) _, own_setCell o2 (own_ne o2 hb (by decide)) _, r⟩
  have HF := Lib.hid hfin
  have HB := Lib.hid hb
  have HG := Lib.hid hg
  clear h hb rest hfin hg ho
  go_enter Try.func21, Try.ntmps21
  go_wp2_with fail
  go_quiet (fail)
  go_wp2
  go_ret
  exact ⟨rfl, HF.out, ((Kp.refl _ _ _).setCell HB.out HG.out (.inl (by simp))).drewN _⟩

set_option maxRecDepth 100000 in
set_option maxHeartbeats 1000000 in
theorem push_add {w : World} {B g most : Nat} {last now : List Int} {begun : Bool} (h : IsSorter w B g most last now begun 0) (b : Int) (ho : now.length < most) (hB : B ≤ w.heap.size) :
    Calls Try.prog 21 #[.pointer (some ⟨g, 0, none⟩), .int .u8 b] w fun e w' => e = .returned (.int .i64 0) ∧ IsSorter w' B g most last (now ++ [b]) begun 0 ∧ Kp B [95, 5] w w' := by
  obtain ⟨A1, A2, c1, c2, hb, hg, o1, o2, hne, l1, l2, l3⟩ := id h
  have h0 : w.cell? ⟨g, 0, none⟩ = some (.int .i64 most) := blk_cell hb 0
  have h2 : w.cell? ⟨g, 2, none⟩ = some (.slice A2 now.length c2) := blk_cell hb 2
  have h4 : w.cell? ⟨g, 4, none⟩ = some (.int .i64 0) := blk_cell hb 4
  have ho' : ((now.length : Int) == (most : Int)) = false := by simp; omega
  have HB := Lib.hid hb
  have O1 := Lib.hid o1
  have O2 := Lib.hid o2
  have HNE := Lib.hid hne
  have L2 := Lib.hid l2
  clear h hb o1 o2 hne l1 l2
  go_enter Try.func21, Try.ntmps21
  go_wp2_with fail
  go_quiet (fail)
  go_wp2_with (at_builtin; go_loud (refine wpList_app1 _ _ rfl _ _ 93 5 rfl B _ _ Try.underlying93 info_u8 rfl _ _ _ _ (.int .u8 b) rfl rfl rfl (own_drewN O2.out _) (by unfold maxLen; omega) (by omega) (by simp; omega) ?_; intro A3 c3 w1 hown hgr' hat; have hgr := grown_un hgr'; clear hgr'; have HB1 := Lib.hid (blk_grown HB.out hgr (own_ne O2.out HB.out (by decide))); have f2 := blk_cell HB1.out 2; have f4 := blk_cell HB1.out 4; have z2 := blk_frozen HB1.out 2; simp only [List.getElem?_toArray, List.getElem?_cons_succ, List.getElem?_cons_zero] at f2 f4; have HOWN := Lib.hid hown; have HGR := Lib.hid hgr; have HAT := Lib.hid hat; clear hown hgr hat))
  go_ret
  have hne' : ∀ k, (Value.slice A1 last.length c1).ownBlock = some k → some k ≠ (Value.slice A2 now.length c2).ownBlock := by
    intro k hk he
    rcases HNE.out with e | e
    · rw [e] at hk; cases hk
    · exact e (hk.trans he)
  have o1' : w1.ownsRow B 5 1 (.slice A1 last.length c1) last.length (nums last) := O1.out.kept HGR.out (by
    rcases HNE.out with e | e
    · exact .inl e
    · exact .inr e)
  have hx : (Value.slice A1 last.length c1).ownBlock = none ∨ (Value.slice A1 last.length c1).ownBlock ≠ (Value.slice A3 (now.length + 1) c3).ownBlock := by
    rcases HNE.out with e | e
    · exact .inl e
    · right
      rcases HAT.out with h | h
      · rw [h]; exact e
      · rw [h]; intro e2; have := (O1.out.lt _ e2).2; simp at this; omega
  refine ⟨rfl, ⟨A1, A3, c1, c3, ?_, hg, own_setCell o1' (own_ne o1' HB1.out (by decide)) _, ?_, ?_, ?_, ?_, l3⟩, ?_⟩
  · rw [blk_set HB1.out]; simp
  · rw [nums_append, List.length_append]; exact own_setCell HOWN.out (own_ne HOWN.out HB1.out (by decide)) _
  · simpa using hx
  · simp; omega
  · exact L2.out
  · exact ((Kp.refl B _ w).grown HGR.out O2.out (Nat.le_refl _) (.inl (by simp))).setCell HB1.out hg (.inl (by simp))

set_option maxRecDepth 100000 in
set_option maxHeartbeats 1000000 in
theorem end_over {w : World} {B g most : Nat} {last now : List Int} {begun : Bool} {over : Int} (h : IsSorter w B g most last now begun over) (ho : over ≠ 0) :
    Calls Try.prog 23 #[.pointer (some ⟨g, 0, none⟩)] w fun e w' => e = .returned (.int .i64 over) ∧ IsSorter w' B g most last now begun over ∧ Kp B [95, 5] w w' := by
  obtain ⟨A1, A2, c1, c2, hb, rest⟩ := id h
  clear rest
  have h4 : w.cell? ⟨g, 4, none⟩ = some (.int .i64 over) := blk_cell hb 4
  have ho' : (over != 0) = true := by simpa using ho
  have H := Lib.hid h
  clear h hb
  go_enter Try.func23, Try.ntmps23
  go_wp2_with fail
  go_ret
  exact ⟨rfl, H.out, Kp.refl _ _ _⟩

set_option maxRecDepth 100000 in
set_option maxHeartbeats 1000000 in
theorem end_wrong {w : World} {B g most : Nat} {last now : List Int} (h : IsSorter w B g most last now true 0) (ho : 0 < cmp (strOfNums last) (strOfNums now)) :
    Calls Try.prog 23 #[.pointer (some ⟨g, 0, none⟩)] w fun e w' => e = .returned (.int .i64 9) ∧ IsSorter w' B g most last now true 9 ∧ Kp B [95, 5] w w' := by
  obtain ⟨A1, A2, c1, c2, hb, hg, o1, o2, rest⟩ := id h
  have h1 : w.cell? ⟨g, 1, none⟩ = some (.slice A1 last.length c1) := blk_cell hb 1
  have h2 : w.cell? ⟨g, 2, none⟩ = some (.slice A2 now.length c2) := blk_cell hb 2
  have h3 : w.cell? ⟨g, 3, none⟩ = some (.bool true) := blk_cell hb 3
  have h4 : w.cell? ⟨g, 4, none⟩ = some (.int .i64 0) := blk_cell hb 4
  have hf := blk_frozen hb 4
  have k1 := fun m => own_string (P := Try.prog) (src := 93) (dst := 9) Try.underlying93 Try.underlying5 Try.underlying9 (own_drewN o1 m)
  have k2 := fun m => own_string (P := Try.prog) (src := 93) (dst := 9) Try.underlying93 Try.underlying5 Try.underlying9 (own_drewN o2 m)
  have k10 := own_string (P := Try.prog) (src := 93) (dst := 9) Try.underlying93 Try.underlying5 Try.underlying9 o1
  have k20 := own_string (P := Try.prog) (src := 93) (dst := 9) Try.underlying93 Try.underlying5 Try.underlying9 o2
  have hfin : IsSorter (w.setCell ⟨g, 4, none⟩ (.int .i64 9)) B g most last now true 9 := by
    exact ⟨A1, A2, c1, c2, by rw [blk_set hb]; rfl, hg, own_setCell o1 (own_ne o1 hb (by decide)) _, own_setCell o2 (own_ne o2 hb (by decide)) _, rest⟩
  have HF := Lib.hid hfin
  have HB := Lib.hid hb
  have HG := Lib.hid hg
  have s1 : (strOfNums last).size ≤ maxLen := by rw [strOfNums_size]; have := rest.2.2.1; have := rest.2.2.2; unfold maxLen; omega
  have s2 : (strOfNums now).size ≤ maxLen := by rw [strOfNums_size]; have := rest.2.1; have := rest.2.2.2; unfold maxLen; omega
  have S1 := Lib.hid s1
  have S2 := Lib.hid s2
  clear h hb rest hfin hg o1 o2 s1 s2
  go_enter Try.func23, Try.ntmps23
  go_wp2_with fail
  go_quiet ((go_at_call 56; exact Calls.quiet_of_same ((compare_any _ _ _ S1.out S2.out).mono fun _ _ h => ⟨h.1, h.2.symm⟩)))
  go_wp2_with fail
  go_ret
  exact ⟨rfl, HF.out, ((Kp.refl _ _ _).setCell HB.out HG.out (.inl (by simp))).drewN _⟩

theorem sorter_swap {w : World} {B g most : Nat} {last now : List Int} {begun : Bool} (h : IsSorter w B g most last now begun 0) {w' : World} {A1 A2 : Option Addr} {c1 c2 : Nat}
    (hb : w.heap[g]? = some (.cells #[.int .i64 most, .slice A1 last.length c1, .slice A2 now.length c2, .bool begun, .int .i64 0] 95 (0, 0)))
    (hw : w'.heap[g]? = some (.cells #[.int .i64 most, .slice A2 now.length c2, .slice A1 0 c1, .bool true, .int .i64 0] 95 (0, 0)))
    (hk : ∀ k, k ≠ g → w'.heap[k]? = w.heap[k]?) : IsSorter w' B g most now [] true 0 := by
  obtain ⟨A1', A2', c1', c2', hb', hg, o1, o2, hne, l1, l2, l3⟩ := h
  rw [hb] at hb'
  injection hb' with hb'
  injection hb' with hb'
  simp at hb'
  obtain ⟨⟨rfl, rfl⟩, rfl, rfl⟩ := hb'
  have far : ∀ {n : Nat} {v : Value} {xs : List Value}, w.ownsRow B 5 1 v n xs → w'.ownsRow B 5 1 v n xs := by
    intro n v xs ho
    refine ⟨ho.1, ?_⟩
    rcases ho.2 with h2 | ⟨k, cap, cur, hv, hbk, hh, r⟩
    · exact .inl h2
    · refine .inr ⟨k, cap, cur, hv, hbk, ?_, r⟩
      rw [hk k (by rintro rfl; rw [hh] at hb; simp at hb)]
      exact hh
  refine ⟨A2, A1, c2, c1, hw, hg, far o2, far (own_zero o1), ?_, by simp, l1, l3⟩
  rcases hne with e | e
  · cases A1 with
    | none =>
      cases A2 with
      | none => exact .inl rfl
      | some a => exact .inr (by simp [Value.ownBlock])
    | some a => simp [Value.ownBlock] at e
  · right
    intro e2
    apply e
    cases A1 <;> cases A2 <;> simp_all [Value.ownBlock]

theorem sorter_end {w : World} {B g most : Nat} {last now : List Int} {begun : Bool} (h : IsSorter w B g most last now begun 0) {A1 A2 : Option Addr} {c1 c2 m : Nat}
    (hb : w.heap[g]? = some (.cells #[.int .i64 most, .slice A1 last.length c1, .slice A2 now.length c2, .bool begun, .int .i64 0] 95 (0, 0))) (hg : B ≤ g) :
    (Ending.returned (.int .i64 0) = .returned (.int .i64 0)) ∧ IsSorter ((((w.setCell ⟨g, 1, none⟩ (.slice A2 now.length c2)).setCell ⟨g, 2, none⟩ (.slice A1 0 c1)).setCell ⟨g, 3, none⟩ (.bool true)).drewN m) B g most now [] true 0 ∧
      Kp B [95, 5] w ((((w.setCell ⟨g, 1, none⟩ (.slice A2 now.length c2)).setCell ⟨g, 2, none⟩ (.slice A1 0 c1)).setCell ⟨g, 3, none⟩ (.bool true)).drewN m) := by
  have b1 := blk_set hb 1 (.slice A2 now.length c2)
  have b2 := blk_set b1 2 (.slice A1 0 c1)
  have b3 := blk_set b2 3 (.bool true)
  refine ⟨rfl, sorter_swap h hb b3 (fun k hk => ?_), ((((Kp.refl B _ w).setCell hb hg (.inl (by simp))).setCell b1 hg (.inl (by simp))).setCell b2 hg (.inl (by simp))).drewN m⟩
  exact (Below.heap_setCell _ _ _ _ hk).trans ((Below.heap_setCell _ _ _ _ hk).trans (Below.heap_setCell _ _ _ _ hk))

set_option maxRecDepth 100000 in
set_option maxHeartbeats 1000000 in
theorem end_first {w : World} {B g most : Nat} {last now : List Int} (h : IsSorter w B g most last now false 0) :
    Calls Try.prog 23 #[.pointer (some ⟨g, 0, none⟩)] w fun e w' => e = .returned (.int .i64 0) ∧ IsSorter w' B g most now [] true 0 ∧ Kp B [95, 5] w w' := by
  obtain ⟨A1, A2, c1, c2, hb, hg, rest⟩ := id h
  have h1 : w.cell? ⟨g, 1, none⟩ = some (.slice A1 last.length c1) := blk_cell hb 1
  have h2 : w.cell? ⟨g, 2, none⟩ = some (.slice A2 now.length c2) := blk_cell hb 2
  have h3 : w.cell? ⟨g, 3, none⟩ = some (.bool false) := blk_cell hb 3
  have h4 : w.cell? ⟨g, 4, none⟩ = some (.int .i64 0) := blk_cell hb 4
  have f1 := blk_frozen hb 1
  have f2 := blk_frozen hb 2
  have f3 := blk_frozen hb 3
  have HB := Lib.hid hb
  have HG := Lib.hid hg
  have H := Lib.hid h
  clear h hb rest hg
  go_enter Try.func23, Try.ntmps23
  go_wp2_with fail
  go_quiet (fail)
  go_wp2_with fail
  go_region
  go_wp2
  go_ret
  exact sorter_end H.out HB.out HG.out

set_option maxRecDepth 100000 in
set_option maxHeartbeats 1000000 in
theorem end_next {w : World} {B g most : Nat} {last now : List Int} (h : IsSorter w B g most last now true 0) (ho : ¬ 0 < cmp (strOfNums last) (strOfNums now)) :
    Calls Try.prog 23 #[.pointer (some ⟨g, 0, none⟩)] w fun e w' => e = .returned (.int .i64 0) ∧ IsSorter w' B g most now [] true 0 ∧ Kp B [95, 5] w w' := by
  obtain ⟨A1, A2, c1, c2, hb, hg, o1, o2, rest⟩ := id h
  have h1 : w.cell? ⟨g, 1, none⟩ = some (.slice A1 last.length c1) := blk_cell hb 1
  have h2 : w.cell? ⟨g, 2, none⟩ = some (.slice A2 now.length c2) := blk_cell hb 2
  have h3 : w.cell? ⟨g, 3, none⟩ = some (.bool true) := blk_cell hb 3
  have h4 : w.cell? ⟨g, 4, none⟩ = some (.int .i64 0) := blk_cell hb 4
  have f1 := blk_frozen hb 1
  have f2 := blk_frozen hb 2
  have f3 := blk_frozen hb 3
  have k1 := fun m => own_string (P := Try.prog) (src := 93) (dst := 9) Try.underlying93 Try.underlying5 Try.underlying9 (own_drewN o1 m)
  have k2 := fun m => own_string (P := Try.prog) (src := 93) (dst := 9) Try.underlying93 Try.underlying5 Try.underlying9 (own_drewN o2 m)
  have k10 := own_string (P := Try.prog) (src := 93) (dst := 9) Try.underlying93 Try.underlying5 Try.underlying9 o1
  have k20 := own_string (P := Try.prog) (src := 93) (dst := 9) Try.underlying93 Try.underlying5 Try.underlying9 o2
  have HB := Lib.hid hb
  have HG := Lib.hid hg
  have H := Lib.hid h
  have s1 : (strOfNums last).size ≤ maxLen := by rw [strOfNums_size]; have := rest.2.2.1; have := rest.2.2.2; unfold maxLen; omega
  have s2 : (strOfNums now).size ≤ maxLen := by rw [strOfNums_size]; have := rest.2.1; have := rest.2.2.2; unfold maxLen; omega
  have S1 := Lib.hid s1
  have S2 := Lib.hid s2
  clear h hb rest hg o1 o2 s1 s2
  go_enter Try.func23, Try.ntmps23
  go_wp2_with fail
  go_quiet ((go_at_call 56; exact Calls.quiet_of_same ((compare_any _ _ _ S1.out S2.out).mono fun _ _ h => ⟨h.1, h.2.symm⟩)))
  go_wp2_with fail
  clear k1 k2 k10 k20
  go_region
  go_wp2
  go_ret
  exact sorter_end H.out HB.out HG.out
end Go.Proofs.Ytkabmmpccfeffaa
