/- The statement OrderSorts, walked. -/
import Derived.Test.YtkabmmpccfeffaaPlay
import Derived.Test.YtkabmmpccfeffaaSortU
namespace Go.Proofs.Ytkabmmpccfeffaa
open Go.RowKit
set_option linter.unusedVariables false
set_option linter.unusedSimpArgs false
attribute [local go_sem ↓] Go.wp_at_zero Go.wp_at_succ

/-- The first n bytes of a string, as numbers. -/
def bytesOf (s : ByteArray) (n : Nat) : List Int := (List.range n).map fun (i : Nat) => bt s i
theorem bytesOf_length (s : ByteArray) (n : Nat) : (bytesOf s n).length = n := by simp [bytesOf]
theorem bytesOf_succ (s : ByteArray) (n : Nat) : bytesOf s n ++ [bt s n] = bytesOf s (n + 1) := by simp [bytesOf, List.range_succ]
theorem bytesOf_all (s : ByteArray) : strOfNums (bytesOf s s.size) = s := by
  apply ByteArray.ext
  apply Array.ext'
  rw [strOfNums_data]
  have hl : s.data.toList.length = s.size := rfl
  apply List.ext_getElem
  · rw [List.length_map, bytesOf_length, hl]
  · intro i h1 h2
    have hi : i < s.size := hl ▸ h2
    rw [List.getElem_map]
    have e : (bytesOf s s.size)[i]'(by rw [bytesOf_length]; exact hi) = bt s i := by unfold bytesOf; rw [List.getElem_map, List.getElem_range]
    rw [e, ← bt_nat s i hi, Int.toNat_natCast]
    exact UInt8.ofNat_toNat

theorem Strs.congr {w : World} {A : Option Addr} {n : Nat} {d e : Nat → ByteArray} (h : Strs w A n d) (he : ∀ i, i < n → d i = e i) : Strs w A n e := fun i hi => by
  obtain ⟨ad, h1, h2⟩ := h i hi
  exact ⟨ad, h1, by rw [← he i hi]; exact h2⟩

theorem end_on {w : World} {B g most : Nat} {last now : List Int} {begun : Bool} (h : IsSorter w B g most last now begun 0) (ho : begun = true → ¬ 0 < cmp (strOfNums last) (strOfNums now)) :
    Calls Try.prog 23 #[.pointer (some ⟨g, 0, none⟩)] w fun e w' => e = .returned (.int .i64 0) ∧ IsSorter w' B g most now [] true 0 ∧ Kp B [95, 5] w w' := by
  cases begun with
  | false => exact end_first h
  | true => exact end_next h (ho rfl)

theorem perm_same {lt : Nat → Nat → Prop} (O : Ord lt) {τ υ : Nat → Nat} {n : Nat} (h1 : Img id τ 0 n) (h2 : Img id υ 0 n) (s1 : Srt lt τ 0 n) (s2 : Srt lt υ 0 n) : ∀ i, i < n → υ i = τ i := by
  intro i hi
  refine (srt_unique O s1 s2 (fun k hk => ?_) (fun k hk => ?_) i hi).symm
  · obtain ⟨l, _, hl, e⟩ := h2.into k (Nat.zero_le _) hk
    obtain ⟨m, _, hm, e2⟩ := h1.onto l (Nat.zero_le _) hl
    exact ⟨m, hm, e.trans e2⟩
  · obtain ⟨l, _, hl, e⟩ := h1.into k (Nat.zero_le _) hk
    obtain ⟨m, _, hm, e2⟩ := h2.onto l (Nat.zero_le _) hl
    exact ⟨m, hm, e.trans e2⟩

set_option maxRecDepth 100000 in
set_option maxHeartbeats 8000000 in
theorem orderSorts_big {A : Option Addr} {len cap : Nat} {ss : Nat → ByteArray} {w : World} (h : Strs w A len ss) (h1 : len ≤ 100 → ∃ i, i < len ∧ 300 < (ss i).size) :
    Calls Try.prog 5 #[.slice A len cap] w fun e w' => e = .returned (.bool true) ∧ Below w.heap.size w w' := by
  have HH := Lib.hid h
  have H1 := Lib.hid h1
  clear h h1
  go_enter Try.func5, Try.ntmps5
  go_wp2_with fail
  refine (oawake_any _).mono ?_
  rintro e w1 ⟨rfl, hb1⟩
  have HB1 := Lib.hid hb1
  clear hb1
  go_wp2_with fail
  refine (great_yes (HH.out.below HB1.out) H1.out).mono ?_
  rintro e w2 ⟨rfl, rfl⟩
  go_wp2_with fail
  refine (oawake_any _).mono ?_
  rintro e w2 ⟨rfl, hb2⟩
  go_wp2_with fail
  go_ret
  exact ⟨rfl, HB1.out.trans (hb2.mono HB1.out.size)⟩

set_option maxRecDepth 100000 in
set_option maxHeartbeats 800000 in
theorem orderSorts_small {A : Option Addr} {len cap : Nat} {d : Nat → ByteArray} {w : World} (h : Strs w A len d) (hn : len ≤ 100) (hd : ∀ i, (d i).size ≤ 300) :
    Calls Try.prog 5 #[.slice A len cap] w fun e w' => e = .returned (.bool true) ∧ Below w.heap.size w w' := by
  have HH := Lib.hid h
  have HD := Lib.hid hd
  have HD2 : Hid (∀ i, (d i).size ≤ 65536) := Lib.hid fun i => Nat.le_trans (hd i) (by omega)
  clear h hd
  go_enter Try.func5, Try.ntmps5
  go_wp2_with fail
  refine (oawake_any _).mono ?_
  rintro e w1 ⟨rfl, hb1⟩
  have HB1 := Lib.hid hb1
  have HH1 := Lib.hid (HH.out.below hb1)
  clear hb1
  go_wp2_with fail
  refine (great_no HH1.out hn (fun i _ => HD.out i)).mono ?_
  rintro e w2 ⟨rfl, rfl⟩
  go_wp2_with (at_builtin; go_loud (refine wpList_app rfl (.tmp 16) (.tmp 17) 48 rfl w1.heap.size 9 _ 1 16 Try.underlying48 info_str2 rfl (by omega) _ 0 0 [] rfl (own_at0 1 (heap_new rfl) (by first | omega | (simp; done) | (simp; omega))) _ len _ (vals d id len) rfl (HH1.out.reads.alloc _) (vals_one _ _ _) (by unfold maxLen; omega) (by omega) (by first | omega | (simp; done) | (simp; omega)) ?_
                                    intro A3 c3 w2 hown hgr hkp hat
                                    simp only [Nat.zero_add, List.nil_append] at hown hgr hat
                                    have HAT : Hid (∃ k, (Value.slice A3 len c3).ownBlock = some k) := (by refine Lib.hid ?_; rcases hat with h | h <;> exact ⟨_, h⟩)
                                    have HOWN := Lib.hid hown
                                    have HBL : Hid (Below w1.heap.size w1 w2) := (by refine Lib.hid ?_; exact ((Below.refl _ _).alloc (Nat.le_refl _) _).trans (hkp.below (by first | omega | (simp; done) | (simp; omega))))
                                    obtain ⟨go, rfl, hgo⟩ := own_some HOWN.out HAT.out
                                    have HO2 : Hid (Strs w2 (some ⟨go, 0, none⟩) len d) := Lib.hid (own_strs HOWN.out)
                                    clear hown hgr hat hkp))
  have HBW : Hid (Below w.heap.size w w2) := Lib.hid (HB1.out.trans (HBL.out.mono HB1.out.size))
  refine (sort_any d HD2.out HO2.out hn).mono ?_
  rintro e w3 ⟨A4, c4, τ, rfl, hg3, hi3, hs3, hb3⟩
  have HG3 := Lib.hid hg3
  have HI3 := Lib.hid hi3
  have HS3 := Lib.hid hs3
  have HB3 := Lib.hid hb3
  have HO3 : Hid (Strs w3 (some ⟨go, 0, none⟩) len d) := Lib.hid (HO2.out.below hb3)
  have HA3 : Hid (Strs w3 A len d) := Lib.hid ((HH.out.below HBW.out).below hb3)
  clear hg3 hi3 hs3 hb3
  go_wp2_with fail
  refine (rsort_any d HD2.out (prec_ord d) HA3.out hn).mono ?_
  rintro e w4 ⟨A5, c5, υ, rfl, ho5, hi5, hs5, hb5⟩
  have HG4 : Hid (Strs w4 A4 len fun i => d (τ i)) := Lib.hid (HG3.out.below hb5)
  have HR4 : Hid (Strs w4 A5 len fun i => d (τ i)) := Lib.hid ((own_strs ho5).congr fun i hi => by rw [perm_same (prec_ord d) HI3.out hi5 HS3.out hs5 i hi])
  have HO4 : Hid (Strs w4 (some ⟨go, 0, none⟩) len d) := Lib.hid (HO3.out.below hb5)
  have HA4 : Hid (Strs w4 A len d) := Lib.hid (HA3.out.below hb5)
  have HB4 : Hid (Below w.heap.size w w4) := Lib.hid ((HBW.out.trans (HB3.out.mono HBW.out.size)).trans (hb5.mono (Nat.le_trans HBW.out.size HB3.out.size)))
  clear ho5 hi5 hs5 hb5
  go_wp2_with fail
  refine (same_yes HG4.out HR4.out hn).mono ?_
  rintro e w5 ⟨rfl, q5, rfl⟩
  go_wp2_with fail
  refine (same_yes (HO4.out.drewN q5) (HA4.out.drewN q5) hn).mono ?_
  rintro e w6 ⟨rfl, q6, rfl⟩
  go_wp2_with fail
  refine (new_any 300 _).mono ?_
  rintro e w7 ⟨rfl, hs7, hb7⟩
  have HS7 : Hid (IsSorter w7 w4.heap.size w4.heap.size 300 [] [] false 0) := Lib.hid hs7
  have HB7 : Hid (Below w4.heap.size w4 w7) := Lib.hid ⟨hb7.1, hb7.2, hb7.3, hb7.4, hb7.5⟩
  clear hs7 hb7
  go_wp2_with fail
  go_loopw [37] (fun i wr => ∃ k : Nat, k ≤ len ∧ i = .int .i64 k ∧ Hid (∃ last, IsSorter wr w4.heap.size w4.heap.size 300 last [] (decide (0 < k)) 0 ∧ (0 < k → strOfNums last = d (τ (k - 1))) ∧ Below w4.heap.size w4 wr)) (fun i _ => len - (intOf i).toNat)
  case atStart => exact ⟨0, Nat.zero_le _, rfl, [], HS7.out, fun h => by omega, HB7.out⟩
  case round =>
    obtain ⟨k, hk, rfl, HK⟩ := hrel
    by_cases hlt : k < len
    · obtain ⟨last, hs, hl, hb⟩ := HK.out
      obtain ⟨ad, rfl, hc⟩ := HG4.out k hlt
      have hck : wr.cell? (ad.add k) = some (.string (d (τ k))) := (hb.cell (World.block_lt_of_cell? w4 _ hc)).trans hc
      have hx : (d (τ k)).size ≤ 300 := HD.out _
      have HS := Lib.hid hs
      have HL := Lib.hid hl
      have HB := Lib.hid hb
      have hzr : w4.heap.size ≤ wr.heap.size := hb.size
      clear hs hl hb hc HK
      have b0 : (0 : Int) ≤ (k : Int) := by omega
      have b1 : (k : Int) < (len : Int) := by omega
      go_wp2_with fail
      obtain ⟨wo, rfl⟩ : ∃ wo : World, wo = wr := ⟨_, rfl⟩
      go_loopw [43] (fun i wi => ∃ j : Nat, j ≤ (d (τ k)).size ∧ i = .int .i64 j ∧ Hid (IsSorter wi w4.heap.size w4.heap.size 300 last (bytesOf (d (τ k)) j) (decide (0 < k)) 0 ∧ Kp w4.heap.size [95, 5] wo wi)) (fun i _ => (d (τ k)).size - (intOf i).toNat)
      case atStart => exact ⟨0, Nat.zero_le _, rfl, HS.out, Kp.refl _ _ _⟩
      case round =>
        obtain ⟨j, hj, rfl, HJ⟩ := hrel
        by_cases hjl : j < (d (τ k)).size
        · have c0 : (0 : Int) ≤ (j : Int) := by omega
          have c1 : (j : Int) < ((d (τ k)).size : Int) := by omega
          have hzi : w4.heap.size ≤ wr.heap.size := Nat.le_trans hzr HJ.out.2.size
          go_wp2_with fail
          refine (push_add HJ.out.1 _ (by rw [bytesOf_length]; omega) hzi).mono ?_
          rintro e w8 ⟨rfl, hs8, hk8⟩
          rw [bt_nat _ j hjl, bytesOf_succ] at hs8
          have HS8 := Lib.hid hs8
          have HK8 := Lib.hid hk8
          clear hs8 hk8
          go_wp2_with fail
          go_roundw
          case rel => exact ⟨j + 1, by omega, by go_num, HS8.out, HJ.out.2.trans HK8.out⟩
          case measure => simp [intOf]; omega
        · obtain rfl : j = (d (τ k)).size := by omega
          go_wp2_with fail
          refine (end_on HJ.out.1 (fun hk0 => ?_)).mono ?_
          · have hk0 : 0 < k := of_decide_eq_true hk0
            rw [bytesOf_all, HL.out hk0]
            rcases HS3.out (k - 1) k (Nat.zero_le _) (by omega) hlt with h | h <;> omega
          rintro e w8 ⟨rfl, hs8, hk8⟩
          have HS8 := Lib.hid hs8
          have HK8 := Lib.hid hk8
          clear hs8 hk8
          go_wp2_with fail
          go_roundw
          case rel =>
            refine ⟨k + 1, by omega, by go_num, _, ?_, fun _ => bytesOf_all _, HB.out.trans ((HJ.out.2.trans HK8.out).below hzr)⟩
            have h := HS8.out
            simpa using h
          case measure => simp [intOf]; omega
    · go_wp2_with fail
      go_ret
      exact ⟨rfl, HB4.out.trans (by obtain ⟨_, _, _, hb⟩ := HK.out; exact hb.mono HB4.out.size)⟩

theorem orderSorts_any {A : Option Addr} {len cap : Nat} {ss : Nat → ByteArray} {w : World} (h : Strs w A len ss) :
    Calls Try.prog 5 #[.slice A len cap] w fun e w' => e = .returned (.bool true) ∧ Below w.heap.size w w' := by
  by_cases hg : len ≤ 100 → ∃ i, i < len ∧ 300 < (ss i).size
  · exact orderSorts_big h hg
  · have hn : len ≤ 100 := Classical.byContradiction fun hn => hg fun h => absurd h hn
    have hd : ∀ i, i < len → (ss i).size ≤ 300 := fun i hi => Classical.byContradiction fun hs => hg fun _ => ⟨i, hi, by omega⟩
    refine orderSorts_small (d := fun i => if i < len then ss i else ⟨#[]⟩) (h.congr fun i hi => by rw [if_pos hi]) hn fun i => ?_
    by_cases hi : i < len
    · simp only [if_pos hi]; exact hd i hi
    · simp only [if_neg hi]; exact Nat.zero_le _
end Go.Proofs.Ytkabmmpccfeffaa
