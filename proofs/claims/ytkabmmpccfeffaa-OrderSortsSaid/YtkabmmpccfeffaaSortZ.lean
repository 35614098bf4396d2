/- slices.symMergeCmpFunc at strings: its second branch (a right run of one). -/
import Derived.Test.YtkabmmpccfeffaaSortY
namespace Go.Proofs.Ytkabmmpccfeffaa
open Go.RowKit
set_option linter.unusedVariables false
set_option linter.unusedSimpArgs false

set_option maxRecDepth 100000 in
set_option maxHeartbeats 8000000 in
theorem sym_last (d : Nat → ByteArray) (hd : ∀ i, (d i).size ≤ 65536) (O : Ord (Prec d)) {w : World} {g n cap a m : Nat} {σ : Nat → Nat} {A M B : Int} (hA : A = a) (hM : M = m) (hB : B = m + 1) (H : Holds w g n cap d σ) (T : Two (Prec d) σ a m (m + 1)) (ham : a ≤ m) (hne : m ≠ a + 1) (hb : m + 1 ≤ n) (hn : n ≤ 1000000) :
    Calls Try.prog 135 #[.slice (some ⟨g, 0, none⟩) n cap, .int .i64 A, .int .i64 M, .int .i64 B, .func (.func 66) #[] #[]] w fun e w' => e = .returned (.tuple #[]) ∧ Sorted (Prec d) d σ g n cap a (m + 1) w w' := by
  subst hA; subst hM; subst hB
  have HH := Lib.hid H
  have HT := Lib.hid T
  have HD := Lib.hid hd
  have HO := Lib.hid O
  obtain ⟨hc1, hc2⟩ := H.cap_le
  unfold maxLen at hc2
  have e0 : ((m : Int) - (a : Int) == 1) = false := by rw [beq_eq_false_iff_ne]; omega
  have e1 : IntKind.i64.wrap ((m : Int) + 1 - m) = 1 := IntWalk.i64_in _ (by omega) |>.trans (by omega)
  clear H T hd O hne
  go_enter Try.func135, Try.ntmps135
  go_wp2_with fail
  go_loopw [14, 15] (fun i j wr => ∃ x y : Nat, a ≤ x ∧ x ≤ y ∧ y ≤ m ∧ i = .int .i64 x ∧ j = .int .i64 y ∧ Hid (Holds wr g n cap d σ ∧ Only g w wr ∧ (∀ h, a ≤ h → h < x → Prec d (σ h) (σ m)) ∧ (∀ h, y ≤ h → h < m → Prec d (σ m) (σ h)))) (fun i j _ => (intOf j).toNat - (intOf i).toNat)
  case atStart => exact ⟨a, m, by omega, by omega, by omega, rfl, rfl, HH.out, Only.refl _ _, fun h h1 h2 => by omega, fun h h1 h2 => by omega⟩
  case round =>
    obtain ⟨x, y, hx1, hxy, hy1, rfl, rfl, HK⟩ := hrel
    by_cases hlt : x < y
    · have b0 : (0 : Int) ≤ (m : Int) := by omega
      have b1 : (m : Int) < (n : Int) := by omega
      have HH1 := Lib.hid HK.out.1
      have hxh : x ≤ (x + y) / 2 := by omega
      have hhy : (x + y) / 2 < y := by omega
      have c0 := HH1.out.cell (k := m) (by omega)
      have c1 := HH1.out.cell (k := (x + y) / 2) (by omega)
      have b2 : (0 : Int) ≤ ((x : Int) + y) / 2 := by omega
      have b3 : ((x : Int) + y) / 2 < (n : Int) := by omega
      have htag : σ ((x + y) / 2) < σ m := HT.out.tag _ m (by omega) (by omega) (by omega) (by omega)
      have HTG := Lib.hid htag
      clear htag
      by_cases hc : cmp (d (σ m)) (d (σ ((x + y) / 2))) < 0
      · have hcb : (!decide (cmp (d (σ m)) (d (σ ((x + y) / 2))) < 0)) = false := by simp [hc]
        go_wp2_with fail
        go_quiet ((go_at_call 66; exact Calls.quiet_of_same ((cmpf_any _ _ _ (HD.out _) (HD.out _)).mono fun _ _ h => ⟨h.1, h.2.symm⟩)))
        go_wp2_with fail
        go_roundw
        case rel =>
          refine ⟨x, (x + y) / 2, hx1, by omega, by omega, rfl, by congr 1, HH1.out.drewN _, HK.out.2.1.drewN _, HK.out.2.2.1, fun z z1 z2 => ?_⟩
          by_cases e : z = (x + y) / 2
          · rw [e]; exact .inl hc
          · exact HO.out.tr (.inl hc) (HT.out.left _ z (by omega) (by omega) z2)
        case measure => simp [intOf]; omega
      · have hp := prec_flip HO.out hc HTG.out
        have HP := Lib.hid hp
        clear hp
        have hcb : (!decide (cmp (d (σ m)) (d (σ ((x + y) / 2))) < 0)) = true := by simp [hc]
        clear hc
        go_wp2_with fail
        go_quiet ((go_at_call 66; exact Calls.quiet_of_same ((cmpf_any _ _ _ (HD.out _) (HD.out _)).mono fun _ _ h => ⟨h.1, h.2.symm⟩)))
        go_wp2_with fail
        go_roundw
        case rel =>
          refine ⟨(x + y) / 2 + 1, y, by omega, by omega, hy1, by congr 1, rfl, HH1.out.drewN _, HK.out.2.1.drewN _, fun z z1 z2 => ?_, HK.out.2.2.2⟩
          by_cases e : z = (x + y) / 2
          · rw [e]; exact HP.out
          · exact HO.out.tr (HT.out.left z _ z1 (by omega) (by omega)) HP.out
        case measure => simp [intOf]; omega
    · obtain rfl : x = y := by omega
      have hsrt : Srt (Prec d) (rotF σ x m (m + 1)) a (m + 1) := srt_ins2 HT.out.left hx1 hy1 HK.out.2.2.1 HK.out.2.2.2
      have HSR := Lib.hid hsrt
      have HH1 := Lib.hid HK.out.1
      have HO1 := Lib.hid HK.out.2.1
      clear hsrt HK
      go_wp2_with fail
      obtain ⟨wo, rfl⟩ : ∃ wo : World, wo = wr := ⟨_, rfl⟩
      go_loopw [17] (fun k wi => ∃ z : Nat, x ≤ z ∧ z ≤ m ∧ k = .int .i64 z ∧ Hid (Holds wi g n cap d (rotF σ z m (m + 1)) ∧ Only g w wi)) (fun k _ => (intOf k).toNat)
      case atStart => exact ⟨m, by omega, by omega, rfl, by rw [rotF_triv _ _ _ _ (.inl rfl) (by omega) (by omega)]; exact HH1.out, HO1.out⟩
      case round =>
        obtain ⟨z, hz1, hz2, rfl, HK⟩ := hrel
        by_cases hlt2 : x < z
        · obtain ⟨q, rfl⟩ : ∃ q, z = q + 1 := ⟨z - 1, by omega⟩
          have HH2 := Lib.hid HK.out.1
          have HO2 := Lib.hid HK.out.2
          have c0 := HH2.out.cell (k := q) (by omega)
          have c1 := HH2.out.cell (k := q + 1) (by omega)
          have f0 := HH2.out.frozen q
          have f1 := HH2.out.frozen (q + 1)
          generalize hu : d (rotF σ (q + 1) m (m + 1) q) = u at c0
          generalize hv : d (rotF σ (q + 1) m (m + 1) (q + 1)) = v at c1
          have HU := Lib.hid hu
          have HV := Lib.hid hv
          clear hu hv HK
          have b0 : (0 : Int) ≤ (q : Int) := by omega
          have b1 : (q : Int) < (n : Int) := by omega
          have b2 : (0 : Int) ≤ (q : Int) + 1 := by omega
          have b3 : (q : Int) + 1 < (n : Int) := by omega
          have b5 : IntKind.i64.wrap ((q : Int) + 1 - 1) = q := IntWalk.i64_in _ (by omega) |>.trans (by omega)
          have b6 : q ≠ q + 1 := by omega
          have b7 : q + 1 ≠ q := by omega
          go_wp2_with fail
          go_region
          go_wp2_with fail
          go_roundw
          case rel =>
            refine ⟨q, by omega, by omega, by go_num, ?_, ((HO2.out.drew).set _ _).set _ _⟩
            rw [← rot_down _ _ _ (by omega), ← HU.out, ← HV.out]
            exact HH2.out.swp (by omega) (by omega) (by omega)
          case measure => simp [intOf]
        · obtain rfl : z = x := by omega
          go_wp2_with fail
          refine bodyPost_ret (results_none rfl _ _ _) rfl ?_
          exact ⟨rfl, _, HK.out.1, (Img.rot σ (by omega) (by omega)).wide hx1 (Nat.le_refl _), HSR.out, HK.out.2⟩
end Go.Proofs.Ytkabmmpccfeffaa
