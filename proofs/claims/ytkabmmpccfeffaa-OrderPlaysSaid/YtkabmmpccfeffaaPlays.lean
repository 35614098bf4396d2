/- The statement OrderPlays, walked. -/
import Derived.Test.YtkabmmpccfeffaaPlay
import Derived.Test.YtkabmmpccfeffaaRef16c
import Derived.Test.YtkabmmpccfeffaaRef16e
namespace Go.Proofs.Ytkabmmpccfeffaa
open Go.RowKit
set_option linter.unusedVariables false
set_option linter.unusedSimpArgs false
attribute [local go_sem ↓] Go.wp_at_zero Go.wp_at_succ

/-- The two sorters, side by side, behind n calls. -/
def Joint (w : World) (B gs gm most n : Nat) : Prop :=
  ∃ last now begun over all, IsSorter w B gs most last now begun over ∧ IsRef w B gm most all over ∧ all.length ≤ n + 1 ∧
    (over = 0 → ∃ pre, all = pre ++ [strOfNums now] ∧ ((begun = false ∧ pre = []) ∨ (begun = true ∧ ∃ p, pre = p ++ [strOfNums last])))

theorem Joint.keep {w w' : World} {B gs gm most n : Nat} (h : Joint w B gs gm most n) (hb : Below w.heap.size w w') : Joint w' B gs gm most n := by
  obtain ⟨last, now, begun, over, all, ⟨A1, A2, c1, c2, hb1, hg, o1, o2, r⟩, ⟨A, c, hb2, hg2, o3, r2⟩, rest⟩ := h
  have kb : ∀ {g : Nat} {o : Obj}, w.heap[g]? = some o → w'.heap[g]? = some o := fun h => (hb.block _ (blk_lt h)).trans h
  have ko : ∀ {e : TypeId} {n : Nat} {v : Value} {xs : List Value}, w.ownsRow B e 1 v n xs → w'.ownsRow B e 1 v n xs := fun h => (Kp.of_below (B := 0) (ts := []) hb (Nat.zero_le _)).own h (by simp)
  exact ⟨last, now, begun, over, all, ⟨A1, A2, c1, c2, kb hb1, hg, ko o1, ko o2, r⟩, ⟨A, c, kb hb2, hg2, ko o3, r2⟩, rest⟩
theorem IsSorter.drew {w : World} {B g most : Nat} {last now : List Int} {begun : Bool} {over : Int} (h : IsSorter w B g most last now begun over) : IsSorter w.drew B g most last now begun over := h
theorem IsRef.drew {w : World} {B g most : Nat} {all : List ByteArray} {E : Int} (h : IsRef w B g most all E) : IsRef w.drew B g most all E := h
theorem Joint.more {w : World} {B gs gm most n n' : Nat} (h : Joint w B gs gm most n) (hn : n ≤ n') : Joint w B gs gm most n' := by
  obtain ⟨last, now, begun, over, all, h1, h2, h3, h4⟩ := h
  exact ⟨last, now, begun, over, all, h1, h2, by omega, h4⟩
theorem IsRef.keep {w w' : World} {B g most : Nat} {all : List ByteArray} {E : Int} {ts : List TypeId} (h : IsRef w B g most all E) (hk : Kp B ts w w') (h1 : 97 ∉ ts) (h2 : 9 ∉ ts) : IsRef w' B g most all E := by
  obtain ⟨A, c, hb, hg, o, r⟩ := h
  exact ⟨A, c, hk.blk hb h1, hg, hk.own o h2, r⟩
theorem IsSorter.keep {w w' : World} {B g most : Nat} {last now : List Int} {begun : Bool} {over : Int} {ts : List TypeId} (h : IsSorter w B g most last now begun over) (hk : Kp B ts w w') (h1 : 95 ∉ ts) (h2 : 5 ∉ ts) : IsSorter w' B g most last now begun over := by
  obtain ⟨A1, A2, c1, c2, hb, hg, o1, o2, r⟩ := h
  exact ⟨A1, A2, c1, c2, hk.blk hb h1, hg, hk.own o1 h2, hk.own o2 h2, r⟩

theorem IsSorter.low {w : World} {B B' g most : Nat} {last now : List Int} {begun : Bool} {over : Int} (h : IsSorter w B g most last now begun over) (hB : B' ≤ B) : IsSorter w B' g most last now begun over := by
  obtain ⟨A1, A2, c1, c2, hb, hg, o1, o2, r⟩ := h
  exact ⟨A1, A2, c1, c2, hb, by omega, own_weaken o1 hB, own_weaken o2 hB, r⟩
theorem IsRef.low {w : World} {B B' g most : Nat} {all : List ByteArray} {E : Int} (h : IsRef w B g most all E) (hB : B' ≤ B) : IsRef w B' g most all E := by
  obtain ⟨A, c, hb, hg, o, r⟩ := h
  exact ⟨A, c, hb, by omega, own_weaken o hB, r⟩

theorem strOfNums_snoc (xs : List Int) (b : Int) : strOfNums xs ++ strOfNums [b] = strOfNums (xs ++ [b]) := by
  apply ByteArray.ext
  rw [ByteArray.data_append]
  simp [strOfNums]

set_option maxRecDepth 100000 in
set_option maxHeartbeats 8000000 in
theorem orderPlays_any (most : Int) (A : Option Addr) (len cap : Nat) (kd bv : Nat → Int) (w : World)
    (hA : ∀ i, i < len → ∃ ad, A = some ad ∧ w.cell? (ad.add (i * 2)) = some (.int .i64 (kd i)) ∧ w.cell? ⟨(ad.add (i * 2)).block, (ad.add (i * 2)).off + 1, none⟩ = some (.int .u8 (bv i))) :
    Calls Try.prog 3 #[.int .i64 most, .slice A len cap] w fun e w' => e = .returned (.bool true) ∧ Below w.heap.size w w' := by
  have HA := Lib.hid hA
  clear hA
  by_cases hlen : 300 < len
  · have hl : (300 : Int) < (len : Int) := by omega
    go_enter Try.func3, Try.ntmps3
    go_wp2_with fail
    refine (oawake_any _).mono ?_
    rintro e w1 ⟨rfl, hb1⟩
    have HB1 := Lib.hid hb1
    clear hb1
    go_wp2_with fail
    refine (oawake_any _).mono ?_
    rintro e w2 ⟨rfl, hb2⟩
    go_wp2_with fail
    go_ret
    exact ⟨rfl, HB1.out.trans (hb2.mono HB1.out.size)⟩
  · have hl : (len : Int) ≤ 300 := by omega
    go_enter Try.func3, Try.ntmps3
    go_wp2_with fail
    refine (oawake_any _).mono ?_
    rintro e w1 ⟨rfl, hb1⟩
    have hz1 : w.heap.size ≤ w1.heap.size := hb1.size
    have HB1 := Lib.hid hb1
    clear hb1
    go_wp2_with fail
    refine (new_any most _).mono ?_
    rintro e w2 ⟨rfl, hs2, hb2⟩
    have hz2 : w1.heap.size < w2.heap.size := blk_lt hs2.choose_spec.choose_spec.choose_spec.choose_spec.1
    have HS2 := Lib.hid hs2
    have HB2 := Lib.hid hb2
    clear hs2 hb2
    go_wp2_with fail
    refine (rnew_any most _).mono ?_
    rintro e w3 ⟨rfl, hs3, hb3⟩
    have HS3 := Lib.hid hs3
    have HB3 := Lib.hid hb3
    clear hs3 hb3
    go_wp2_with fail
    have hJ : Joint w3 w.heap.size w1.heap.size (w2.heap.size + 1) (min (max most 0) 65536).toNat 0 := by
      refine ⟨[], [], false, 0, [⟨#[]⟩], (HS2.out.keep (Kp.of_below (ts := []) HB3.out (by omega)) (by simp) (by simp)).low hz1, HS3.out.low (by omega), by simp, fun _ => ⟨[], rfl, .inl ⟨rfl, rfl⟩⟩⟩
    have hBw : Below w.heap.size w w3 := (HB1.out.trans (HB2.out.mono hz1)).trans (HB3.out.mono (by omega))
    have hz3 : w.heap.size ≤ w3.heap.size := hBw.size
    have hM : (min (max most 0) 65536).toNat ≤ 65536 := by omega
    generalize hMM : (min (max most 0) 65536).toNat = M at *
    have HMM := Lib.hid hMM
    clear hMM
    have HJ := Lib.hid hJ
    have HBW := Lib.hid hBw
    clear HS2 HS3 hJ hBw
    go_loopw [6, 26] (fun m i wr => ∃ k gm : Nat, k ≤ len ∧ i = .int .i64 k ∧ m = .pointer (some ⟨gm, 0, none⟩) ∧ Hid (Joint wr w.heap.size w1.heap.size gm M k) ∧ Hid (Below w.heap.size w wr)) (fun _ i _ => len - (intOf i).toNat)
    case atStart => exact ⟨0, w2.heap.size + 1, Nat.zero_le _, rfl, rfl, HJ, HBW⟩
    case round =>
      obtain ⟨k, gm, hk, rfl, rfl, HK, HW⟩ := hrel
      clear HJ HBW
      by_cases hlt : k < len
      · obtain ⟨ad, rfl, hc0, hc1⟩ := HA.out k hlt
        have hzr : w.heap.size ≤ wr.heap.size := HW.out.size
        have d0 : wr.cell? (ad.add (k * 2)) = some (.int .i64 (kd k)) := (HW.out.cell (World.block_lt_of_cell? w _ hc0)).trans hc0
        have d1 : wr.cell? ⟨(ad.add (k * 2)).block, (ad.add (k * 2)).off + 1, none⟩ = some (.int .u8 (bv k)) := (HW.out.cell (World.block_lt_of_cell? w _ hc1)).trans hc1
        clear hc0 hc1
        by_cases k1 : kd k = 1
        · have k1' : (kd k == 1) = true := by simpa using k1
          clear k1
          obtain ⟨last, now, begun, over, all, hs, hr, hal, hov⟩ := HK.out
          have hbn : Below wr.heap.size wr (wr.alloc (.cells #[.int .i64 (kd k), .int .u8 (bv k)] 29)) := (Below.refl _ _).alloc (Nat.le_refl _) _
          have BB : Hid ((wr.alloc (.cells #[.int .i64 (kd k), .int .u8 (bv k)] 29)).heap[wr.heap.size]? = some (.cells #[.int .i64 (kd k), .int .u8 (bv k)] 29 (0, 0))) := heap_new rfl
          have HS := Lib.hid (hs.keep (Kp.of_below (ts := []) hbn hzr) (by simp) (by simp))
          have HR := Lib.hid (hr.keep (Kp.of_below (ts := []) hbn hzr) (by simp) (by simp))
          have hzr' : w.heap.size ≤ wr.heap.size + 1 := by omega
          have HOV := Lib.hid hov
          clear hs hr hbn hov
          by_cases hov0 : over = 0
          · obtain ⟨pre, hall, hpre⟩ := HOV.out hov0
            have HPRE := Lib.hid hpre
            have HOV0 := Lib.hid hov0
            clear hpre hov0
            have hlp : pre.length ≤ 1000 := by have := congrArg List.length hall; simp at this; omega
            have HR' : Hid (IsRef (wr.alloc (.cells #[.int .i64 (kd k), .int .u8 (bv k)] 29)) w.heap.size gm M (pre ++ [strOfNums now]) 0) := by rw [← hall, ← HOV0.out]; exact HR.out
            have HS' : Hid (IsSorter (wr.alloc (.cells #[.int .i64 (kd k), .int .u8 (bv k)] 29)) w.heap.size w1.heap.size M last now begun 0) := by rw [← HOV0.out]; exact HS.out
            have HALL := Lib.hid hall
            clear hall
            have hnl : now.length ≤ M := by obtain ⟨_, _, _, _, _, _, _, _, _, h, _⟩ := HS'.out; exact h
            by_cases hfull : now.length = M
            · have HF := Lib.hid hfull
              clear hfull
              go_wp2_with fail
              go_region_held3 (fun w' => w'.cell? ⟨wr.heap.size, 1, none⟩ = some (.int .u8 (bv k))) (first | go_keep | exact (blk_cell BB.out 1) | exact (blk_cell BB4.out 1) | exact (blk_cell BB5.out 1)) (first
                | (go_at_call 21; refine (push_full (by first | exact HS'.out | exact HS'.out.drew) _ HF.out).mono ?_; rintro e w4 ⟨rfl, hs4, hk4⟩; have HS4 := Lib.hid hs4; have HK4 := Lib.hid hk4; have hz4 := HK4.out.size; (try simp at hz4); have BB4 : Hid (w4.heap[wr.heap.size]? = some (.cells #[.int .i64 (kd k), .int .u8 (bv k)] 29 (0, 0))) := (by refine Lib.hid ?_; exact HK4.out.blk BB.out (by decide)); clear hs4 hk4)
                | (go_at_call 22; refine (rpush_full (HR'.out.drew.keep HK4.out (by decide) (by decide)) _ (by rw [strOfNums_size, HF.out]; omega) hlp (by omega)).mono ?_; rintro e w5 ⟨rfl, hs5, hk5⟩; have HS5 := Lib.hid hs5; have HK5 := Lib.hid hk5; have hz5 := HK5.out.size; (try simp at hz5); have BB5 : Hid (w5.heap[wr.heap.size]? = some (.cells #[.int .i64 (kd k), .int .u8 (bv k)] 29 (0, 0))) := (by refine Lib.hid ?_; exact HK5.out.blk BB4.out (by decide)); clear hs5 hk5))
              go_wp2_with fail
              go_roundw
              case rel =>
                refine ⟨k + 1, gm, by omega, by go_num, rfl, ?_, ?_⟩
                · exact ⟨last, now, begun, 11, pre ++ [strOfNums now], (HS4.out.keep HK5.out (by decide) (by decide)), HS5.out, by have := congrArg List.length HALL.out; simp at this ⊢; omega, fun h => by cases h⟩
                · exact (HW.out.alloc hzr _).drew.trans (((HK4.out.mono (Nat.le_refl _) (ts' := [95, 5, 97, 9]) (by simp)).trans (HK5.out.mono (Nat.le_refl _) (by simp))).below (by simp; omega))
              case measure => simp [intOf]; omega
            · have hlt' : now.length < M := by omega
              clear hfull
              go_wp2_with fail
              go_region_held3 (fun w' => w'.cell? ⟨wr.heap.size, 1, none⟩ = some (.int .u8 (bv k))) (first | go_keep | exact (blk_cell BB.out 1) | exact (blk_cell BB4.out 1) | exact (blk_cell BB5.out 1)) (first
                | (go_at_call 21; refine (push_add (by first | exact HS'.out | exact HS'.out.drew) _ hlt' (by simp; omega)).mono ?_; rintro e w4 ⟨rfl, hs4, hk4⟩; have HS4 := Lib.hid hs4; have HK4 := Lib.hid hk4; have hz4 := HK4.out.size; (try simp at hz4); have BB4 : Hid (w4.heap[wr.heap.size]? = some (.cells #[.int .i64 (kd k), .int .u8 (bv k)] 29 (0, 0))) := (by refine Lib.hid ?_; exact HK4.out.blk BB.out (by decide)); clear hs4 hk4)
                | (go_at_call 22; refine (rpush_add (HR'.out.drew.keep HK4.out (by decide) (by decide)) _ (by rw [strOfNums_size]; omega) hM hlp (by omega)).mono ?_; rintro e w5 ⟨rfl, hs5, hk5⟩; have HS5 := Lib.hid hs5; have HK5 := Lib.hid hk5; have hz5 := HK5.out.size; (try simp at hz5); have BB5 : Hid (w5.heap[wr.heap.size]? = some (.cells #[.int .i64 (kd k), .int .u8 (bv k)] 29 (0, 0))) := (by refine Lib.hid ?_; exact HK5.out.blk BB4.out (by decide)); clear hs5 hk5))
              go_wp2_with fail
              go_roundw
              case rel =>
                refine ⟨k + 1, gm, by omega, by go_num, rfl, ?_, ?_⟩
                · exact ⟨last, now ++ [bv k], begun, 0, pre ++ [strOfNums now ++ strOfNums [bv k]], (HS4.out.keep HK5.out (by decide) (by decide)), HS5.out, by have := congrArg List.length HALL.out; simp at this ⊢; omega, fun _ => ⟨pre, by rw [strOfNums_snoc], HPRE.out⟩⟩
                · exact (HW.out.alloc hzr _).drew.trans (((HK4.out.mono (Nat.le_refl _) (ts' := [95, 5, 97, 9]) (by simp)).trans (HK5.out.mono (Nat.le_refl _) (by simp))).below (by simp; omega))
              case measure => simp [intOf]; omega
          · have hov1 : over ≠ 0 := hov0
            have HO1 := Lib.hid hov1
            clear hov0 hov1
            go_wp2_with fail
            go_region_held3 (fun w' => w'.cell? ⟨wr.heap.size, 1, none⟩ = some (.int .u8 (bv k))) (first | go_keep | exact (blk_cell BB.out 1) | exact (blk_cell BB4.out 1) | exact (blk_cell BB5.out 1)) (first
              | (go_at_call 21; refine (push_over (by first | exact HS.out | exact HS.out.drew) _ HO1.out).mono ?_; rintro e w4 ⟨rfl, hs4, hk4⟩; have HS4 := Lib.hid hs4; have HK4 := Lib.hid hk4; have hz4 := HK4.out.size; (try simp at hz4); have BB4 : Hid (w4.heap[wr.heap.size]? = some (.cells #[.int .i64 (kd k), .int .u8 (bv k)] 29 (0, 0))) := (by refine Lib.hid ?_; exact HK4.out.blk BB.out (by decide)); clear hs4 hk4)
              | (go_at_call 22; refine (rpush_over (HR.out.drew.keep HK4.out (by decide) (by decide)) _ HO1.out).mono ?_; rintro e w5 ⟨rfl, hs5, hk5⟩; have HS5 := Lib.hid hs5; have HK5 := Lib.hid hk5; have hz5 := HK5.out.size; (try simp at hz5); have BB5 : Hid (w5.heap[wr.heap.size]? = some (.cells #[.int .i64 (kd k), .int .u8 (bv k)] 29 (0, 0))) := (by refine Lib.hid ?_; exact HK5.out.blk BB4.out (by decide)); clear hs5 hk5))
            go_wp2_with fail
            go_roundw
            case rel =>
              refine ⟨k + 1, gm, by omega, by go_num, rfl, ?_, ?_⟩
              · exact ⟨last, now, begun, over, all, (HS4.out.keep HK5.out (by decide) (by decide)), HS5.out, by omega, fun h => absurd h HO1.out⟩
              · exact (HW.out.alloc hzr _).drew.trans (((HK4.out.mono (Nat.le_refl _) (ts' := [95, 5, 97, 9]) (by simp)).trans (HK5.out.mono (Nat.le_refl _) (by simp))).below (by simp; omega))
            case measure => simp [intOf]; omega
        · by_cases k2 : kd k = 2
          · have k1' : (kd k == 1) = false := by simpa using k1
            have k2' : (kd k == 2) = true := by simpa using k2
            clear k1 k2
            obtain ⟨last, now, begun, over, all, hs, hr, hal, hov⟩ := HK.out
            have hbn : Below wr.heap.size wr (wr.alloc (.cells #[.int .i64 (kd k), .int .u8 (bv k)] 29)) := (Below.refl _ _).alloc (Nat.le_refl _) _
            have BB : Hid ((wr.alloc (.cells #[.int .i64 (kd k), .int .u8 (bv k)] 29)).heap[wr.heap.size]? = some (.cells #[.int .i64 (kd k), .int .u8 (bv k)] 29 (0, 0))) := heap_new rfl
            have HS := Lib.hid (hs.keep (Kp.of_below (ts := []) hbn hzr) (by simp) (by simp))
            have HR := Lib.hid (hr.keep (Kp.of_below (ts := []) hbn hzr) (by simp) (by simp))
            have hzr' : w.heap.size ≤ wr.heap.size + 1 := by omega
            have HOV := Lib.hid hov
            clear hs hr hbn hov
            by_cases hov0 : over = 0
            · obtain ⟨pre, hall, hpre⟩ := HOV.out hov0
              have HOV0 := Lib.hid hov0
              clear hov0
              rcases hpre with ⟨hbg, hp0⟩ | ⟨hbg, p, hp0⟩
              · have HR' : Hid (IsRef (wr.alloc (.cells #[.int .i64 (kd k), .int .u8 (bv k)] 29)) w.heap.size gm M [strOfNums now] 0) := by have := HR.out; rw [hall, hp0, HOV0.out] at this; exact this
                have HS' : Hid (IsSorter (wr.alloc (.cells #[.int .i64 (kd k), .int .u8 (bv k)] 29)) w.heap.size w1.heap.size M last now false 0) := by have := HS.out; rw [hbg, HOV0.out] at this; exact this
                clear hall hp0 hbg
                go_wp2_with (first
                  | (go_at_call 23; refine (end_first HS'.out).mono ?_; rintro e w4 ⟨rfl, hs4, hk4⟩; have HS4 := Lib.hid hs4; have HK4 := Lib.hid hk4; have hz4 := HK4.out.size; (try simp at hz4); have BB4 : Hid (w4.heap[wr.heap.size]? = some (.cells #[.int .i64 (kd k), .int .u8 (bv k)] 29 (0, 0))) := (by refine Lib.hid ?_; exact HK4.out.blk BB.out (by decide)); clear hs4 hk4)
                  | (go_at_call 24; refine (rend_first (HR'.out.keep HK4.out (by decide) (by decide)) (by omega)).mono ?_; rintro e w5 ⟨rfl, hs5, hk5⟩; have HS5 := Lib.hid hs5; have HK5 := Lib.hid hk5; have hz5 := HK5.out.size; (try simp at hz5); have BB5 : Hid (w5.heap[wr.heap.size]? = some (.cells #[.int .i64 (kd k), .int .u8 (bv k)] 29 (0, 0))) := (by refine Lib.hid ?_; exact HK5.out.blk BB4.out (by decide)); clear hs5 hk5))
                go_roundw
                case rel =>
                  refine ⟨k + 1, gm, by omega, by go_num, rfl, ?_, ?_⟩
                  · exact ⟨now, [], true, 0, [strOfNums now] ++ [⟨#[]⟩], (HS4.out.keep HK5.out (by decide) (by decide)), HS5.out, by simp, fun _ => ⟨[strOfNums now], rfl, .inr ⟨rfl, [], rfl⟩⟩⟩
                  · exact (HW.out.alloc hzr _).trans (((HK4.out.mono (Nat.le_refl _) (ts' := [95, 5, 97, 9]) (by simp)).trans (HK5.out.mono (Nat.le_refl _) (by simp))).below (by simp; omega))
                case measure => simp [intOf]; omega
              · have hl2 : p.length + 2 ≤ k + 1 := by rw [hall, hp0] at hal; simp at hal; omega
                have HR' : Hid (IsRef (wr.alloc (.cells #[.int .i64 (kd k), .int .u8 (bv k)] 29)) w.heap.size gm M (p ++ [strOfNums last, strOfNums now]) 0) := by have := HR.out; rw [hall, hp0, HOV0.out] at this; refine Lib.hid ?_; simpa using this
                have HS' : Hid (IsSorter (wr.alloc (.cells #[.int .i64 (kd k), .int .u8 (bv k)] 29)) w.heap.size w1.heap.size M last now true 0) := by have := HS.out; rw [hbg, HOV0.out] at this; exact this
                clear hall hp0 hbg hal
                by_cases hc : 0 < cmp (strOfNums last) (strOfNums now)
                · have HC := Lib.hid hc
                  clear hc
                  go_wp2_with (first
                    | (go_at_call 23; refine (end_wrong HS'.out HC.out).mono ?_; rintro e w4 ⟨rfl, hs4, hk4⟩; have HS4 := Lib.hid hs4; have HK4 := Lib.hid hk4; have hz4 := HK4.out.size; (try simp at hz4); have BB4 : Hid (w4.heap[wr.heap.size]? = some (.cells #[.int .i64 (kd k), .int .u8 (bv k)] 29 (0, 0))) := (by refine Lib.hid ?_; exact HK4.out.blk BB.out (by decide)); clear hs4 hk4)
                    | (go_at_call 24; refine (rend_wrong (HR'.out.keep HK4.out (by decide) (by decide)) HC.out (by omega)).mono ?_; rintro e w5 ⟨rfl, hs5, hk5⟩; have HS5 := Lib.hid hs5; have HK5 := Lib.hid hk5; have hz5 := HK5.out.size; (try simp at hz5); have BB5 : Hid (w5.heap[wr.heap.size]? = some (.cells #[.int .i64 (kd k), .int .u8 (bv k)] 29 (0, 0))) := (by refine Lib.hid ?_; exact HK5.out.blk BB4.out (by decide)); clear hs5 hk5))
                  go_roundw
                  case rel =>
                    refine ⟨k + 1, gm, by omega, by go_num, rfl, ?_, ?_⟩
                    · exact ⟨last, now, true, 9, p ++ [strOfNums last, strOfNums now], (HS4.out.keep HK5.out (by decide) (by decide)), HS5.out, by simp; omega, fun h => by cases h⟩
                    · exact (HW.out.alloc hzr _).trans (((HK4.out.mono (Nat.le_refl _) (ts' := [95, 5, 97, 9]) (by simp)).trans (HK5.out.mono (Nat.le_refl _) (by simp))).below (by simp; omega))
                  case measure => simp [intOf]; omega
                · have HC := Lib.hid hc
                  clear hc
                  go_wp2_with (first
                    | (go_at_call 23; refine (end_next HS'.out (by have := HC.out; omega)).mono ?_; rintro e w4 ⟨rfl, hs4, hk4⟩; have HS4 := Lib.hid hs4; have HK4 := Lib.hid hk4; have hz4 := HK4.out.size; (try simp at hz4); have BB4 : Hid (w4.heap[wr.heap.size]? = some (.cells #[.int .i64 (kd k), .int .u8 (bv k)] 29 (0, 0))) := (by refine Lib.hid ?_; exact HK4.out.blk BB.out (by decide)); clear hs4 hk4)
                    | (go_at_call 24; refine (rend_next (HR'.out.keep HK4.out (by decide) (by decide)) (by have := HC.out; omega) (by omega) (by omega)).mono ?_; rintro e w5 ⟨rfl, hs5, hk5⟩; have HS5 := Lib.hid hs5; have HK5 := Lib.hid hk5; have hz5 := HK5.out.size; (try simp at hz5); have BB5 : Hid (w5.heap[wr.heap.size]? = some (.cells #[.int .i64 (kd k), .int .u8 (bv k)] 29 (0, 0))) := (by refine Lib.hid ?_; exact HK5.out.blk BB4.out (by decide)); clear hs5 hk5))
                  go_roundw
                  case rel =>
                    refine ⟨k + 1, gm, by omega, by go_num, rfl, ?_, ?_⟩
                    · exact ⟨now, [], true, 0, p ++ [strOfNums last, strOfNums now] ++ [⟨#[]⟩], (HS4.out.keep HK5.out (by decide) (by decide)), HS5.out, by simp; omega, fun _ => ⟨p ++ [strOfNums last, strOfNums now], rfl, .inr ⟨rfl, p ++ [strOfNums last], by simp⟩⟩⟩
                    · exact (HW.out.alloc hzr _).trans (((HK4.out.mono (Nat.le_refl _) (ts' := [95, 5, 97, 9]) (by simp)).trans (HK5.out.mono (Nat.le_refl _) (by simp))).below (by simp; omega))
                  case measure => simp [intOf]; omega
            · have hov1 : over ≠ 0 := hov0
              have HO1 := Lib.hid hov1
              clear hov0 hov1
              go_wp2_with (first
                | (go_at_call 23; refine (end_over HS.out HO1.out).mono ?_; rintro e w4 ⟨rfl, hs4, hk4⟩; have HS4 := Lib.hid hs4; have HK4 := Lib.hid hk4; have hz4 := HK4.out.size; (try simp at hz4); have BB4 : Hid (w4.heap[wr.heap.size]? = some (.cells #[.int .i64 (kd k), .int .u8 (bv k)] 29 (0, 0))) := (by refine Lib.hid ?_; exact HK4.out.blk BB.out (by decide)); clear hs4 hk4)
                | (go_at_call 24; refine (rend_over (HR.out.keep HK4.out (by decide) (by decide)) HO1.out (by omega)).mono ?_; rintro e w5 ⟨rfl, hs5, hk5⟩; have HS5 := Lib.hid hs5; have HK5 := Lib.hid hk5; have hz5 := HK5.out.size; (try simp at hz5); have BB5 : Hid (w5.heap[wr.heap.size]? = some (.cells #[.int .i64 (kd k), .int .u8 (bv k)] 29 (0, 0))) := (by refine Lib.hid ?_; exact HK5.out.blk BB4.out (by decide)); clear hs5 hk5))
              go_roundw
              case rel =>
                refine ⟨k + 1, gm, by omega, by go_num, rfl, ?_, ?_⟩
                · exact ⟨last, now, begun, over, all, (HS4.out.keep HK5.out (by decide) (by decide)), HS5.out, by omega, fun h => absurd h HO1.out⟩
                · exact (HW.out.alloc hzr _).trans (((HK4.out.mono (Nat.le_refl _) (ts' := [95, 5, 97, 9]) (by simp)).trans (HK5.out.mono (Nat.le_refl _) (by simp))).below (by simp; omega))
              case measure => simp [intOf]; omega
          · by_cases k3 : kd k = 3
            · have k1' : (kd k == 1) = false := by simpa using k1
              have k2' : (kd k == 2) = false := by simpa using k2
              have k3' : (kd k == 3) = true := by simpa using k3
              clear k1 k2 k3
              obtain ⟨last, now, begun, over, all, hs, hr, hal, hov⟩ := HK.out
              have hbn : Below wr.heap.size wr (wr.alloc (.cells #[.int .i64 (kd k), .int .u8 (bv k)] 29)) := (Below.refl _ _).alloc (Nat.le_refl _) _
              have BB : Hid ((wr.alloc (.cells #[.int .i64 (kd k), .int .u8 (bv k)] 29)).heap[wr.heap.size]? = some (.cells #[.int .i64 (kd k), .int .u8 (bv k)] 29 (0, 0))) := heap_new rfl
              have HS := Lib.hid (hs.keep (Kp.of_below (ts := []) hbn hzr) (by simp) (by simp))
              have HR := Lib.hid (hr.keep (Kp.of_below (ts := []) hbn hzr) (by simp) (by simp))
              have hzr' : w.heap.size ≤ wr.heap.size + 1 := by omega
              have HOV := Lib.hid hov
              clear hs hr hbn hov
              go_wp2_with (first
                | (go_at_call 25; refine (reset_any HS.out).mono ?_; rintro e w4 ⟨rfl, hs4, hk4⟩; have HS4 := Lib.hid hs4; have HK4 := Lib.hid hk4; have hz4 := HK4.out.size; (try simp at hz4); have BB4 : Hid (w4.heap[wr.heap.size]? = some (.cells #[.int .i64 (kd k), .int .u8 (bv k)] 29 (0, 0))) := (by refine Lib.hid ?_; exact HK4.out.blk BB.out (by decide)); clear hs4 hk4)
                | (go_at_call 20; refine (rnew_any most _).mono ?_; rintro e w5 ⟨rfl, hs5, hb5⟩; have HS5 := Lib.hid hs5; have HB5 := Lib.hid hb5; clear hs5 hb5))
              go_roundw
              case rel =>
                refine ⟨k + 1, w4.heap.size + 1, by omega, by go_num, rfl, ?_, ?_⟩
                · refine ⟨[], [], false, 0, [⟨#[]⟩], HS4.out.keep (Kp.of_below (ts := []) HB5.out (by omega)) (by simp) (by simp), ?_, by simp, fun _ => ⟨[], rfl, .inl ⟨rfl, rfl⟩⟩⟩
                  have := HS5.out
                  rw [HMM.out] at this
                  exact this.low (by omega)
                · exact (HW.out.alloc hzr _).trans ((HK4.out.below (by simp; omega)).trans (HB5.out.mono (by omega)))
              case measure => simp [intOf]; omega
            · have k1' : (kd k == 1) = false := by simpa using k1
              have k2' : (kd k == 2) = false := by simpa using k2
              have k3' : (kd k == 3) = false := by simpa using k3
              clear k1 k2 k3
              go_wp2_with fail
              go_roundw
              case rel => exact ⟨k + 1, gm, by omega, by go_num, rfl, (HK.out.keep ((Below.refl _ _).alloc (Nat.le_refl _) _)).more (by omega), HW.out.alloc hzr _⟩
              case measure => simp [intOf]; omega
      · go_wp2
        go_ret
        exact ⟨rfl, HW.out⟩
end Go.Proofs.Ytkabmmpccfeffaa
