/- package gantletref16's Sorter, by contracts: Push with room. -/
import Derived.Test.YtkabmmpccfeffaaRef16
namespace Go.Proofs.Ytkabmmpccfeffaa
open Go.RowKit
set_option linter.unusedVariables false
set_option linter.unusedSimpArgs false
attribute [local go_sem ↓] Go.wp_at_zero Go.wp_at_succ

theorem rpush_fin {w w4 : World} {B g most : Nat} {pre : List ByteArray} {x : ByteArray} {A4 : Option Addr} {c4 n : Nat} {v : Value}
    (HB4 : w4.heap[g]? = some (.cells #[.int .i64 most, v, .int .i64 0] 97 (0, 0))) (hg : B ≤ g) (hn : n = pre.length + 1)
    (HOWN4 : w4.ownsRow B 9 1 (.slice A4 n c4) n (strs pre ++ [.string x])) (HS : ∀ s ∈ pre, s.size ≤ 65536) (hx : x.size ≤ 65536)
    (K : Kp B [97, 9] w w4) :
    (Ending.returned (.int .i64 0) = .returned (.int .i64 0)) ∧ IsRef (w4.setCell ⟨g, 1, none⟩ (.slice A4 n c4)) B g most (pre ++ [x]) 0 ∧ Kp B [97, 9] w (w4.setCell ⟨g, 1, none⟩ (.slice A4 n c4)) := by
  subst hn
  refine ⟨rfl, ⟨A4, c4, ?_, hg, ?_, by simp, ?_⟩, K.setCell HB4 hg (.inl (by simp))⟩
  · rw [blk_set HB4]; simp
  · have := own_setCell HOWN4 (own_ne HOWN4 HB4 (by decide)) (p := ⟨g, 1, none⟩) (.slice A4 (pre.length + 1) c4)
    simpa [strs] using this
  · intro s hs
    rcases List.mem_append.1 hs with h | h
    · exact HS s h
    · simp at h; subst h; exact hx

set_option maxRecDepth 100000 in
set_option maxHeartbeats 20000000 in
theorem rpush_add {w : World} {B g most : Nat} {pre : List ByteArray} {last : ByteArray} (h : IsRef w B g most (pre ++ [last]) 0) (b : Int) (ho : last.size + 1 ≤ most) (hm : most ≤ 65536) (hN : pre.length ≤ 1000) (hB : B ≤ w.heap.size) :
    Calls Try.prog 22 #[.pointer (some ⟨g, 0, none⟩), .int .u8 b] w fun e w' => e = .returned (.int .i64 0) ∧ IsRef w' B g most (pre ++ [last ++ strOfNums [b]]) 0 ∧ Kp B [97, 9] w w' := by
  obtain ⟨A, c, hb, hg, o1, hne, hs⟩ := id h
  have hl : (pre ++ [last]).length = pre.length + 1 := by simp
  have hr0 := Reads.of_own o1
  obtain ⟨ad, rfl, hcell⟩ := hr0.at_ (j := pre.length) (u := .string last) (by simp [strs]) (by omega)
  have hr : Reads w 1 (some ad) pre.length (strs pre) := by
    have := hr0.take (k := pre.length) (by omega)
    simpa [strs] using this
  have hcap : pre.length + 1 ≤ c := by
    rcases o1.2 with ⟨hv, h0⟩ | ⟨g', cap, cur, hv, _, _, hcc, _⟩
    · cases hv
    · injection hv with _ _ e3
      omega
  have hcl : c ≤ maxLen := by
    rcases o1.2 with ⟨hv, h0⟩ | ⟨g', cap, cur, hv, _, _, hcc, hcm, _⟩
    · cases hv
    · injection hv with _ _ e3
      omega
  unfold maxLen at hcl
  have h0 : w.cell? ⟨g, 0, none⟩ = some (.int .i64 most) := blk_cell hb 0
  have h1 : w.cell? ⟨g, 1, none⟩ = some (.slice (some ad) (pre.length + 1) c) := by rw [← hl]; exact blk_cell hb 1
  have h2 : w.cell? ⟨g, 2, none⟩ = some (.int .i64 0) := blk_cell hb 2
  have f1 := blk_frozen hb 1
  have hsz : last.size ≤ 65536 := hs last (by simp)
  have H := Lib.hid h
  have HB := Lib.hid hb
  have HL := Lib.hid hl
  have O1 := Lib.hid o1
  have HS := Lib.hid hs
  have HR := Lib.hid hr
  clear h hb o1 hs hne hl hr0 hr
  have hcv := conv_one b
  have hgl : g < w.heap.size := blk_lt HB.out
  have hadl : (ad.add pre.length).block < w.heap.size := World.block_lt_of_cell? w _ hcell
  have hgl1 : g < w.heap.size + 1 := by omega
  have hgl2 : g < w.heap.size + 1 + 1 := by omega
  have hadl1 : (ad.add pre.length).block < w.heap.size + 1 := by omega
  have hss : (strOfNums [b]).size = 1 := strOfNums_size _
  have w1 : IntKind.i64.wrap (pre.length : Int) = pre.length := IntWalk.i64_in _ (by omega)
  have w2 : (0 : Int) ≤ pre.length := by omega
  have w3 : (pre.length : Int) < (pre.length : Int) + 1 := by omega
  have w4 : IntKind.i64.wrap ((pre.length : Int) + 1 - 1) = pre.length := IntWalk.i64_in _ (by omega) |>.trans (by omega)
  have w5 : (pre.length : Int) ≤ (c : Int) := by omega
  go_enter Try.func22, Try.ntmps22
  go_wp2_with fail
  go_region
  go_wp2_with fail
  go_region_law (first
    | (refine step_app rfl (.tmp 46) (.tmp 57) 48 rfl B 9 _ 1 16 Try.underlying48 info_str rfl (by omega) _ 0 0 [] rfl (by exact own_at0 1 (by repeat (first | exact heap_new (by first | rfl | (simp; done)) | refine heap_old ?_)) (by omega)) _ _ _ (strs pre) rfl (by first | exact HR.out | exact HR.out.alloc _ | exact (HR.out.alloc _).alloc _ | exact ((HR.out.alloc _).alloc _).alloc _) (by simp [strs, Value.oneCell']) (by unfold maxLen; omega) (by omega) (by first | omega | (simp; omega)) ?_; intro A3 c3 w1 hown hgr hkp hat; simp only [Nat.zero_add, List.nil_append] at hown hgr hat; have hz1 := hgr.size; (try simp at hz1); have HB1 : Hid (w1.heap[g]? = some (.cells #[.int .i64 most, .slice (some ad) (pre ++ [last]).length c, .int .i64 0] 97 (0, 0))) := (by refine Lib.hid ?_; refine hkp.blk ?_ (by decide); (try simp only [heap_drew, World.heap_drewN]); repeat (first | exact HB.out | refine heap_old ?_)); have HGR := Lib.hid hgr; have f11 : w1.cell? ⟨g, 1, none⟩ = some (.slice (some ad) (pre.length + 1) c) := (blk_cell HB1.out 1).trans (by rw [HL.out]; rfl); have HOWN := Lib.hid hown; have HKP := Lib.hid hkp; clear hown hgr hat hkp)
    | (refine step_app rfl (.tmp 58) (.tmp 60) 48 rfl B 9 _ 1 16 Try.underlying48 info_str rfl (by omega) _ pre.length _ (strs pre) rfl (by first | exact HOWN.out | exact HOWN.out.alloc _) _ 1 _ [.string (last ++ strOfNums [b])] rfl (by refine reads_at1 (e := 9) ?_; (try simp only [heap_drew, World.heap_drewN]); first | exact heap_new (by first | rfl | (simp; done)) | (refine heap_grown HGR.out ?_ ?_; all_goals first | (simp [Value.ownBlock]; done) | ((try simp only [heap_drew, World.heap_drewN]); repeat (first | exact heap_new (by first | rfl | (simp; done)) | refine heap_old ?_)))) (by simp [Value.oneCell']) (by unfold maxLen; omega) (by omega) (by first | omega | (simp; omega)) ?_; intro A4 c4 w4 hown4 hgr4 hkp4 hat4; have hz4 := hgr4.size; (try simp at hz4); have HB4 : Hid (w4.heap[g]? = some (.cells #[.int .i64 most, .slice (some ad) (pre ++ [last]).length c, .int .i64 0] 97 (0, 0))) := (by refine Lib.hid ?_; refine hkp4.blk ?_ (by decide); (try simp only [heap_drew, World.heap_drewN]); repeat (first | exact HB1.out | refine heap_old ?_)); have f41 : w4.cell? ⟨g, 1, none⟩ = some (.slice (some ad) (pre.length + 1) c) := (blk_cell HB4.out 1).trans (by rw [HL.out]; rfl); have z41 := blk_frozen HB4.out 1; have HOWN4 := Lib.hid hown4; have HKP4 := Lib.hid hkp4; clear hown4 hgr4 hat4 hkp4))
  all_goals
    go_wp2
    go_ret
    refine rpush_fin HB4.out hg rfl HOWN4.out (fun s hs => HS.out s (by simp [hs])) (by rw [ByteArray.size_append, hss]; omega) ?_
    refine Kp.trans ?_ (HKP4.out.mono (Nat.le_refl _) (by simp))
    repeat (first | exact Kp.refl _ _ _ | refine Kp.drew ?_ | refine Kp.drewN ?_ _ | refine Kp.alloc ?_ _ | refine Kp.trans ?_ (HKP.out.mono (Nat.le_refl _) (by simp)))
end Go.Proofs.Ytkabmmpccfeffaa
