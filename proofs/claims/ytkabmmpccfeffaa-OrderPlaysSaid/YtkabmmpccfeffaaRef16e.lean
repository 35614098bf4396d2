/- package gantletref16's Sorter, by contracts: End, New. -/
import Derived.Test.YtkabmmpccfeffaaRef16
import Derived.Test.YtkabmmpccfeffaaRef16d
namespace Go.Proofs.Ytkabmmpccfeffaa
open Go.RowKit
set_option linter.unusedVariables false
set_option linter.unusedSimpArgs false

set_option maxRecDepth 100000 in
set_option maxHeartbeats 2000000 in
theorem rend_over {w : World} {B g most : Nat} {all : List ByteArray} {E : Int} (h : IsRef w B g most all E) (ho : E ≠ 0) (hN : all.length ≤ 1000) :
    Calls Try.prog 24 #[.pointer (some ⟨g, 0, none⟩)] w fun e w' => e = .returned (.int .i64 E) ∧ IsRef w' B g most all E ∧ Kp B [97, 9] w w' := by
  obtain ⟨A, c, hb, rest⟩ := id h
  have h1 : w.cell? ⟨g, 1, none⟩ = some (.slice A all.length c) := blk_cell hb 1
  have h2 : w.cell? ⟨g, 2, none⟩ = some (.int .i64 E) := blk_cell hb 2
  have ho' : (E == 0) = false := by simpa using ho
  have H := Lib.hid h
  clear h hb rest
  go_enter Try.func24, Try.ntmps24
  go_wp2_with fail
  go_quiet (fail)
  go_wp2_with fail
  go_ret
  exact ⟨rfl, H.out, (Kp.refl _ _ _).drewN _⟩

set_option maxRecDepth 100000 in
set_option maxHeartbeats 2000000 in
theorem rend_wrong {w : World} {B g most : Nat} {pre : List ByteArray} {prev last : ByteArray} (h : IsRef w B g most (pre ++ [prev, last]) 0) (ho : 0 < cmp prev last) (hN : pre.length ≤ 1000) :
    Calls Try.prog 24 #[.pointer (some ⟨g, 0, none⟩)] w fun e w' => e = .returned (.int .i64 9) ∧ IsRef w' B g most (pre ++ [prev, last]) 9 ∧ Kp B [97, 9] w w' := by
  obtain ⟨A, c, hb, hg, o1, hne, hs⟩ := id h
  have hl : (pre ++ [prev, last]).length = pre.length + 2 := by simp
  have hr0 := Reads.of_own o1
  obtain ⟨ad, rfl, hc1⟩ := hr0.at_ (j := pre.length + 1) (u := .string last) (by simp [strs]) (by omega)
  obtain ⟨ad', e, hc0⟩ := hr0.at_ (j := pre.length) (u := .string prev) (by simp [strs]) (by omega)
  injection e with e
  subst e
  have h1 : w.cell? ⟨g, 1, none⟩ = some (.slice (some ad) (pre.length + 2) c) := by rw [← hl]; exact blk_cell hb 1
  have h2 : w.cell? ⟨g, 2, none⟩ = some (.int .i64 0) := blk_cell hb 2
  have f2 := blk_frozen hb 2
  have s1 : prev.size ≤ 65536 := hs prev (by simp)
  have s2 : last.size ≤ 65536 := hs last (by simp)
  have H := Lib.hid h
  have HB := Lib.hid hb
  have HL := Lib.hid hl
  have O1 := Lib.hid o1
  have HS := Lib.hid hs
  clear h hb o1 hs hne hl hr0
  have w1 : IntKind.i64.wrap (pre.length : Int) = pre.length := IntWalk.i64_in _ (by omega)
  have w2 : (0 : Int) ≤ pre.length := by omega
  have w3 : (pre.length : Int) < (pre.length : Int) + 2 := by omega
  have w4 : IntKind.i64.wrap ((pre.length : Int) + 2 - 2) = pre.length := IntWalk.i64_in _ (by omega) |>.trans (by omega)
  have w5 : IntKind.i64.wrap ((pre.length : Int) + 2 - 1) = pre.length + 1 := IntWalk.i64_in _ (by omega) |>.trans (by omega)
  have w6 : (0 : Int) ≤ (pre.length : Int) + 1 := by omega
  have w7 : (pre.length : Int) + 1 < (pre.length : Int) + 2 := by omega
  have hc1' : w.cell? ⟨ad.block, ad.off + (pre.length + 1), none⟩ = some (.string last) := by rw [← hc1]; rfl
  have w9 : (1 : Int) < (pre.length : Int) + 2 := by omega
  go_enter Try.func24, Try.ntmps24
  go_wp2_with fail
  go_quiet ((go_at_call 57; exact Calls.quiet_of_same ((rcompare_any _ _ _ (by omega) (by omega)).mono fun _ _ h => ⟨h.1, h.2.symm⟩)))
  go_wp2_with fail
  go_ret
  have b2 := blk_set HB.out 2 (.int .i64 9)
  exact ⟨rfl, ⟨some ad, c, b2, hg, own_setCell O1.out (own_ne O1.out HB.out (by decide)) _, by simp, HS.out⟩, ((Kp.refl B _ w).setCell HB.out hg (.inl (by simp))).drewN _⟩

theorem strs_one (xs : List ByteArray) : ∀ u ∈ strs xs, u.oneCell' = true := by
  intro u hu
  obtain ⟨a, _, rfl⟩ := List.mem_map.1 hu
  rfl

theorem rend_fin {w w4 : World} {B g most : Nat} {all : List ByteArray} {A4 : Option Addr} {c4 n : Nat} {v : Value}
    (HB4 : w4.heap[g]? = some (.cells #[.int .i64 most, v, .int .i64 0] 97 (0, 0))) (hg : B ≤ g) (hn : n = all.length + 1)
    (HOWN4 : w4.ownsRow B 9 1 (.slice A4 n c4) n (strs all ++ [.string ⟨#[]⟩])) (HS : ∀ s ∈ all, s.size ≤ 65536)
    (K : Kp B [97, 9] w w4) :
    (Ending.returned (.int .i64 0) = .returned (.int .i64 0)) ∧ IsRef (w4.setCell ⟨g, 1, none⟩ (.slice A4 n c4)) B g most (all ++ [⟨#[]⟩]) 0 ∧ Kp B [97, 9] w (w4.setCell ⟨g, 1, none⟩ (.slice A4 n c4)) := by
  subst hn
  refine ⟨rfl, ⟨A4, c4, ?_, hg, ?_, by simp, ?_⟩, K.setCell HB4 hg (.inl (by simp))⟩
  · rw [blk_set HB4]; simp
  · have := own_setCell HOWN4 (own_ne HOWN4 HB4 (by decide)) (p := ⟨g, 1, none⟩) (.slice A4 (all.length + 1) c4)
    simpa [strs] using this
  · intro s hs
    rcases List.mem_append.1 hs with h | h
    · exact HS s h
    · simp at h; subst h; show 0 ≤ _; omega

set_option maxRecDepth 100000 in
set_option maxHeartbeats 2000000 in
theorem rend_next {w : World} {B g most : Nat} {pre : List ByteArray} {prev last : ByteArray} (h : IsRef w B g most (pre ++ [prev, last]) 0) (ho : ¬ 0 < cmp prev last) (hN : pre.length ≤ 1000) (hB : B ≤ w.heap.size) :
    Calls Try.prog 24 #[.pointer (some ⟨g, 0, none⟩)] w fun e w' => e = .returned (.int .i64 0) ∧ IsRef w' B g most (pre ++ [prev, last] ++ [⟨#[]⟩]) 0 ∧ Kp B [97, 9] w w' := by
  obtain ⟨A, c, hb, hg, o1, hne, hs⟩ := id h
  have hl : (pre ++ [prev, last]).length = pre.length + 2 := by simp
  have hr0 := Reads.of_own o1
  obtain ⟨ad, rfl, hc1⟩ := hr0.at_ (j := pre.length + 1) (u := .string last) (by simp [strs]) (by omega)
  obtain ⟨ad', e, hc0⟩ := hr0.at_ (j := pre.length) (u := .string prev) (by simp [strs]) (by omega)
  injection e with e
  subst e
  rw [hl] at hr0
  have h1 : w.cell? ⟨g, 1, none⟩ = some (.slice (some ad) (pre.length + 2) c) := by rw [← hl]; exact blk_cell hb 1
  have h2 : w.cell? ⟨g, 2, none⟩ = some (.int .i64 0) := blk_cell hb 2
  have f2 := blk_frozen hb 2
  have f1 := blk_frozen hb 1
  have s1 : prev.size ≤ 65536 := hs prev (by simp)
  have s2 : last.size ≤ 65536 := hs last (by simp)
  have hgl : g < w.heap.size := blk_lt hb
  have hgl1 : g < w.heap.size + 1 := by omega
  have h1a : ∀ n o, ((w.drewN n).alloc o).cell? ⟨g, 1, none⟩ = some (.slice (some ad) (pre.length + 2) c) := fun n o => (World.cell?_alloc_lt (w.drewN n) o _ hgl).trans h1
  have H := Lib.hid h
  have HB := Lib.hid hb
  have HL := Lib.hid hl
  have HR := Lib.hid hr0
  have HS := Lib.hid hs
  clear h hb o1 hs hne hl hr0
  have w1 : IntKind.i64.wrap (pre.length : Int) = pre.length := IntWalk.i64_in _ (by omega)
  have w2 : (0 : Int) ≤ pre.length := by omega
  have w3 : (pre.length : Int) < (pre.length : Int) + 2 := by omega
  have w4 : IntKind.i64.wrap ((pre.length : Int) + 2 - 2) = pre.length := IntWalk.i64_in _ (by omega) |>.trans (by omega)
  have w5 : IntKind.i64.wrap ((pre.length : Int) + 2 - 1) = pre.length + 1 := IntWalk.i64_in _ (by omega) |>.trans (by omega)
  have w6 : (0 : Int) ≤ (pre.length : Int) + 1 := by omega
  have w7 : (pre.length : Int) + 1 < (pre.length : Int) + 2 := by omega
  have hc1' : w.cell? ⟨ad.block, ad.off + (pre.length + 1), none⟩ = some (.string last) := by rw [← hc1]; rfl
  have w9 : (1 : Int) < (pre.length : Int) + 2 := by omega
  go_enter Try.func24, Try.ntmps24
  go_wp2_with fail
  go_quiet ((go_at_call 57; exact Calls.quiet_of_same ((rcompare_any _ _ _ (by omega) (by omega)).mono fun _ _ h => ⟨h.1, h.2.symm⟩)))
  clear hc1 hc0 hc1'
  go_wp2_with (first
    | (at_builtin; refine wpList_app rfl (.tmp 47) (.tmp 51) 48 rfl B 9 _ 1 16 Try.underlying48 info_str rfl (by omega) _ 0 0 [] rfl (own_at0 1 (heap_new rfl) (by omega)) (some ad) (pre.length + 2) c (strs (pre ++ [prev, last])) rfl (((HR.out.drewN _).alloc _)) (strs_one _) (by unfold maxLen; omega) (by omega) (by simp; omega) ?_
       intro A3 c3 w1 hown hgr hkp hat
       simp only [Nat.zero_add, List.nil_append] at hown hgr hat
       have hz1 := hgr.size
       simp at hz1
       have HB1 : Hid (w1.heap[g]? = some (.cells #[.int .i64 most, .slice (some ad) (pre ++ [prev, last]).length c, .int .i64 0] 97 (0, 0))) := (by refine Lib.hid ?_; refine hkp.blk ?_ (by decide); exact heap_old HB.out)
       have hg1 : g < w1.heap.size := by omega
       have HOWN := Lib.hid hown
       have HKP := Lib.hid hkp
       clear hown hgr hat hkp)
    | (at_builtin; refine wpList_app rfl (.tmp 52) (.tmp 53) 48 rfl B 9 _ 1 16 Try.underlying48 info_str rfl (by omega) A3 (pre.length + 2) c3 (strs (pre ++ [prev, last])) rfl (HOWN.out.alloc _) _ 1 1 [.string ⟨#[]⟩] rfl (Reads.one _ _ _) (by simp [Value.oneCell']) (by unfold maxLen; omega) (by omega) (by simp; omega) ?_
       intro A4 c4 w4 hown4 hgr4 hkp4 hat4
       have HB4 : Hid (w4.heap[g]? = some (.cells #[.int .i64 most, .slice (some ad) (pre ++ [prev, last]).length c, .int .i64 0] 97 (0, 0))) := (by refine Lib.hid ?_; refine hkp4.blk ?_ (by decide); exact heap_old HB1.out)
       have f41 := blk_cell HB4.out 1
       have f42 := blk_cell HB4.out 2
       have z41 := blk_frozen HB4.out 1
       simp only [List.getElem?_toArray, List.getElem?_cons_succ, List.getElem?_cons_zero] at f41 f42
       have HOWN4 := Lib.hid hown4
       have HKP4 := Lib.hid hkp4
       clear hown4 hgr4 hat4 hkp4))
  go_ret
  exact rend_fin HB4.out hg (by simp) HOWN4.out HS.out ((((((Kp.refl B _ w).drewN _).alloc _).trans (HKP.out.mono (Nat.le_refl _) (by simp))).alloc _).trans (HKP4.out.mono (Nat.le_refl _) (by simp)))
set_option maxRecDepth 100000 in
set_option maxHeartbeats 2000000 in
theorem rend_first {w : World} {B g most : Nat} {last : ByteArray} (h : IsRef w B g most [last] 0) (hB : B ≤ w.heap.size) :
    Calls Try.prog 24 #[.pointer (some ⟨g, 0, none⟩)] w fun e w' => e = .returned (.int .i64 0) ∧ IsRef w' B g most ([last] ++ [⟨#[]⟩]) 0 ∧ Kp B [97, 9] w w' := by
  obtain ⟨A, c, hb, hg, o1, hne, hs⟩ := id h
  have hr0 : Reads w 1 A 1 (strs [last]) := Reads.of_own o1
  have h1 : w.cell? ⟨g, 1, none⟩ = some (.slice A 1 c) := blk_cell hb 1
  have h2 : w.cell? ⟨g, 2, none⟩ = some (.int .i64 0) := blk_cell hb 2
  have f2 := blk_frozen hb 2
  have f1 := blk_frozen hb 1
  have hgl : g < w.heap.size := blk_lt hb
  have hgl1 : g < w.heap.size + 1 := by omega
  have h1a : ∀ n o, ((w.drewN n).alloc o).cell? ⟨g, 1, none⟩ = some (.slice A 1 c) := fun n o => (World.cell?_alloc_lt (w.drewN n) o _ hgl).trans h1
  have H := Lib.hid h
  have HB := Lib.hid hb
  have HR := Lib.hid hr0
  have HS := Lib.hid hs
  clear h hb o1 hs hne hr0
  go_enter Try.func24, Try.ntmps24
  go_wp2_with fail
  go_quiet (fail)
  go_wp2_with (first
    | (at_builtin; refine wpList_app rfl (.tmp 47) (.tmp 51) 48 rfl B 9 _ 1 16 Try.underlying48 info_str rfl (by omega) _ 0 0 [] rfl (own_at0 1 (heap_new rfl) (by omega)) A 1 c (strs [last]) rfl (((HR.out.drewN _).alloc _)) (strs_one _) (by unfold maxLen; omega) (by omega) (by simp; omega) ?_
       intro A3 c3 w1 hown hgr hkp hat
       simp only [Nat.zero_add, List.nil_append] at hown hgr hat
       have hz1 := hgr.size
       simp at hz1
       have HB1 : Hid (w1.heap[g]? = some (.cells #[.int .i64 most, .slice A 1 c, .int .i64 0] 97 (0, 0))) := (by refine Lib.hid ?_; refine hkp.blk ?_ (by decide); exact heap_old HB.out)
       have hg1 : g < w1.heap.size := by omega
       have HOWN := Lib.hid hown
       have HKP := Lib.hid hkp
       clear hown hgr hat hkp)
    | (at_builtin; refine wpList_app rfl (.tmp 52) (.tmp 53) 48 rfl B 9 _ 1 16 Try.underlying48 info_str rfl (by omega) A3 1 c3 (strs [last]) rfl (HOWN.out.alloc _) _ 1 1 [.string ⟨#[]⟩] rfl (Reads.one _ _ _) (by simp [Value.oneCell']) (by unfold maxLen; omega) (by omega) (by simp; omega) ?_
       intro A4 c4 w4 hown4 hgr4 hkp4 hat4
       have HB4 : Hid (w4.heap[g]? = some (.cells #[.int .i64 most, .slice A 1 c, .int .i64 0] 97 (0, 0))) := (by refine Lib.hid ?_; refine hkp4.blk ?_ (by decide); exact heap_old HB1.out)
       have f41 := blk_cell HB4.out 1
       have f42 := blk_cell HB4.out 2
       have z41 := blk_frozen HB4.out 1
       simp only [List.getElem?_toArray, List.getElem?_cons_succ, List.getElem?_cons_zero] at f41 f42
       have HOWN4 := Lib.hid hown4
       have HKP4 := Lib.hid hkp4
       clear hown4 hgr4 hat4 hkp4))
  go_ret
  exact rend_fin HB4.out hg (by simp) HOWN4.out HS.out ((((((Kp.refl B _ w).drewN _).alloc _).trans (HKP.out.mono (Nat.le_refl _) (by simp))).alloc _).trans (HKP4.out.mono (Nat.le_refl _) (by simp)))

theorem rnew_fin (w : World) (m k : Nat) (hk : k = m) :
    Ending.returned (.pointer (some ⟨w.heap.size + 1, 0, none⟩)) = .returned (.pointer (some ⟨w.heap.size + 1, 0, none⟩)) ∧
      IsRef ((w.alloc (.cells #[.string ⟨#[]⟩] 9)).alloc (.cells #[.int .i64 m, .slice (some ⟨w.heap.size, 0, none⟩) 1 1, .int .i64 0] 97)) w.heap.size (w.heap.size + 1) k [⟨#[]⟩] 0 ∧
      Below w.heap.size w ((w.alloc (.cells #[.string ⟨#[]⟩] 9)).alloc (.cells #[.int .i64 m, .slice (some ⟨w.heap.size, 0, none⟩) 1 1, .int .i64 0] 97)) := by
  subst hk
  refine ⟨rfl, ⟨some ⟨w.heap.size, 0, none⟩, 1, heap_new (by simp), by omega, ?_, by simp, by intro s hs; simp at hs; subst hs; exact Nat.zero_le _⟩, ((Below.refl _ _).alloc (Nat.le_refl _) _).alloc (by simp) _⟩
  exact (own_lit w w.heap.size 9 [.string ⟨#[]⟩] 1 1 (Nat.le_refl _) (by decide) rfl).alloc _

set_option maxRecDepth 100000 in
set_option maxHeartbeats 2000000 in
theorem rnew_any (most : Int) (w : World) :
    Calls Try.prog 20 #[.int .i64 most] w fun e w' => e = .returned (.pointer (some ⟨w.heap.size + 1, 0, none⟩)) ∧ IsRef w' w.heap.size (w.heap.size + 1) (min (max most 0) 65536).toNat [⟨#[]⟩] 0 ∧ Below w.heap.size w w' := by
  go_enter Try.func20, Try.ntmps20
  go_wp2_with fail
  · go_ret
    exact rnew_fin w 0 _ (by omega)
  · go_ret
    exact rnew_fin w 65536 _ (by omega)
  · go_ret
    obtain ⟨m, rfl⟩ := Int.eq_ofNat_of_zero_le (show 0 ≤ most by assumption)
    exact rnew_fin w m _ (by omega)
end Go.Proofs.Ytkabmmpccfeffaa
