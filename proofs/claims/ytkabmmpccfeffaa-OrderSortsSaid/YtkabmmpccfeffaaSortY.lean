/- slices.symMergeCmpFunc at strings: its first branch (a left run of one). -/
import Derived.Test.YtkabmmpccfeffaaSortX
namespace Go.Proofs.Ytkabmmpccfeffaa
open Go.RowKit
set_option linter.unusedVariables false
set_option linter.unusedSimpArgs false

theorem prec_of_neg {d : Nat → ByteArray} {i j : Nat} (h : cmp (d i) (d j) < 0) : Prec d i j := .inl h
theorem not_prec {d : Nat → ByteArray} {i j : Nat} (h : ¬ cmp (d i) (d j) < 0) (ht : j < i) : ¬ Prec d i j := by
  rintro (h1 | ⟨_, h1⟩)
  · exact h h1
  · omega
theorem prec_flip {d : Nat → ByteArray} (O : Ord (Prec d)) {i j : Nat} (h : ¬ cmp (d i) (d j) < 0) (ht : j < i) : Prec d j i := O.tot (by omega) (not_prec h ht)

set_option maxRecDepth 100000 in
set_option maxHeartbeats 8000000 in
theorem sym_one (d : Nat → ByteArray) (hd : ∀ i, (d i).size ≤ 65536) (O : Ord (Prec d)) {w : World} {g n cap a b : Nat} {σ : Nat → Nat} {A M B : Int} (hA : A = a) (hM : M = a + 1) (hB : B = b) (H : Holds w g n cap d σ) (T : Two (Prec d) σ a (a + 1) b) (hab : a + 1 ≤ b) (hb : b ≤ n) (hn : n ≤ 1000000) :
    Calls Try.prog 135 #[.slice (some ⟨g, 0, none⟩) n cap, .int .i64 A, .int .i64 M, .int .i64 B, .func (.func 66) #[] #[]] w fun e w' => e = .returned (.tuple #[]) ∧ Sorted (Prec d) d σ g n cap a b w w' := by
  subst hA; subst hM; subst hB
  have HH := Lib.hid H
  have HT := Lib.hid T
  have HD := Lib.hid hd
  have HO := Lib.hid O
  obtain ⟨hc1, hc2⟩ := H.cap_le
  unfold maxLen at hc2
  clear H T hd O
  have e1 : IntKind.i64.wrap ((a : Int) + 1 - a) = 1 := IntWalk.i64_in _ (by omega) |>.trans (by omega)
  go_enter Try.func135, Try.ntmps135
  go_wp2_with fail
  go_loopw [10, 11] (fun i j wr => ∃ x y : Nat, a + 1 ≤ x ∧ x ≤ y ∧ y ≤ b ∧ i = .int .i64 x ∧ j = .int .i64 y ∧ Hid (Holds wr g n cap d σ ∧ Only g w wr ∧ (∀ h, a + 1 ≤ h → h < x → Prec d (σ h) (σ a)) ∧ (∀ h, y ≤ h → h < b → Prec d (σ a) (σ h)))) (fun i j _ => (intOf j).toNat - (intOf i).toNat)
  case atStart => exact ⟨a + 1, b, by omega, by omega, by omega, by go_num, rfl, HH.out, Only.refl _ _, fun h h1 h2 => by omega, fun h h1 h2 => by omega⟩
  case round =>
    obtain ⟨x, y, hx1, hxy, hy1, rfl, rfl, HK⟩ := hrel
    by_cases hlt : x < y
    · have b0 : (0 : Int) ≤ (a : Int) := by omega
      have b1 : (a : Int) < (n : Int) := by omega
      have HH1 := Lib.hid HK.out.1
      obtain ⟨h, hh⟩ : ∃ h, h = (x + y) / 2 := ⟨_, rfl⟩
      have hxh : x ≤ (x + y) / 2 := by omega
      have hhy : (x + y) / 2 < y := by omega
      have c0 := HH1.out.cell (k := a) (by omega)
      have c1 := HH1.out.cell (k := (x + y) / 2) (by omega)
      have b2 : (0 : Int) ≤ ((x : Int) + y) / 2 := by omega
      have b3 : ((x : Int) + y) / 2 < (n : Int) := by omega
      have htag : σ a < σ ((x + y) / 2) := HT.out.tag a _ (Nat.le_refl _) (by omega) (by omega) (by omega)
      have HTG := Lib.hid htag
      clear htag hh
      by_cases hc : cmp (d (σ ((x + y) / 2))) (d (σ a)) < 0
      · go_wp2_with fail
        go_quiet ((go_at_call 66; exact Calls.quiet_of_same ((cmpf_any _ _ _ (HD.out _) (HD.out _)).mono fun _ _ h => ⟨h.1, h.2.symm⟩)))
        go_wp2_with fail
        go_roundw
        case rel =>
          refine ⟨(x + y) / 2 + 1, y, by omega, by omega, hy1, by congr 1, rfl, HH1.out.drewN _, HK.out.2.1.drewN _, fun z z1 z2 => ?_, HK.out.2.2.2⟩
          by_cases e : z = (x + y) / 2
          · rw [e]; exact .inl hc
          · exact HO.out.tr (HT.out.right z _ z1 (by omega) (by omega)) (.inl hc)
        case measure => simp [intOf]; omega
      · have hp := prec_flip HO.out hc HTG.out
        have HP := Lib.hid hp
        clear hp
        go_wp2_with fail
        go_quiet ((go_at_call 66; exact Calls.quiet_of_same ((cmpf_any _ _ _ (HD.out _) (HD.out _)).mono fun _ _ h => ⟨h.1, h.2.symm⟩)))
        go_wp2_with fail
        go_roundw
        case rel =>
          refine ⟨x, (x + y) / 2, hx1, by omega, by omega, rfl, by congr 1, HH1.out.drewN _, HK.out.2.1.drewN _, HK.out.2.2.1, fun z z1 z2 => ?_⟩
          by_cases e : z = (x + y) / 2
          · rw [e]; exact HP.out
          · exact HO.out.tr HP.out (HT.out.right _ z (by omega) (by omega) z2)
        case measure => simp [intOf]; omega
    · obtain rfl : x = y := by omega
      have hsrt : Srt (Prec d) (rotF σ a (a + 1) x) a b := srt_ins1 HT.out.right hx1 hy1 HK.out.2.2.1 HK.out.2.2.2
      have HSR := Lib.hid hsrt
      have HH1 := Lib.hid HK.out.1
      have HO1 := Lib.hid HK.out.2.1
      clear hsrt HK
      go_wp2_with fail
      obtain ⟨wo, rfl⟩ : ∃ wo : World, wo = wr := ⟨_, rfl⟩
      go_loopw [13] (fun k wi => ∃ z : Nat, a ≤ z ∧ z + 1 ≤ x ∧ k = .int .i64 z ∧ Hid (Holds wi g n cap d (rotF σ a (a + 1) (z + 1)) ∧ Only g w wi)) (fun k _ => x - (intOf k).toNat)
      case atStart => exact ⟨a, by omega, by omega, rfl, by rw [rotF_triv _ _ _ _ (.inr rfl) (by omega) (by omega)]; exact HH1.out, HO1.out⟩
      case round =>
        obtain ⟨z, hz1, hz2, rfl, HK⟩ := hrel
        by_cases hlt2 : z + 1 < x
        · have HH2 := Lib.hid HK.out.1
          have HO2 := Lib.hid HK.out.2
          have c0 := HH2.out.cell (k := z) (by omega)
          have c1 := HH2.out.cell (k := z + 1) (by omega)
          have f0 := HH2.out.frozen z
          have f1 := HH2.out.frozen (z + 1)
          generalize hu : d (rotF σ a (a + 1) (z + 1) z) = u at c0
          generalize hv : d (rotF σ a (a + 1) (z + 1) (z + 1)) = v at c1
          have HU := Lib.hid hu
          have HV := Lib.hid hv
          clear hu hv HK
          have b0 : (0 : Int) ≤ (z : Int) := by omega
          have b1 : (z : Int) < (n : Int) := by omega
          have b2 : (0 : Int) ≤ (z : Int) + 1 := by omega
          have b3 : (z : Int) + 1 < (n : Int) := by omega
          have b5 : ((z : Int) + 1).toNat = z + 1 := by omega
          have b6 : z ≠ z + 1 := by omega
          go_wp2_with fail
          go_region
          go_wp2_with fail
          go_roundw
          case rel =>
            refine ⟨z + 1, by omega, by omega, by go_num, ?_, ((HO2.out.drew).set _ _).set _ _⟩
            rw [← rot_up _ _ _ hz1, ← HU.out, ← HV.out]
            exact HH2.out.swp (by omega) (by omega) (by omega)
          case measure => simp [intOf]; omega
        · obtain rfl : x = z + 1 := by omega
          go_wp2_with fail
          refine bodyPost_ret (results_none rfl _ _ _) rfl ?_
          exact ⟨rfl, _, HK.out.1, (Img.rot σ (by omega) (by omega)).wide (Nat.le_refl _) (by omega), HSR.out, HK.out.2⟩
end Go.Proofs.Ytkabmmpccfeffaa
