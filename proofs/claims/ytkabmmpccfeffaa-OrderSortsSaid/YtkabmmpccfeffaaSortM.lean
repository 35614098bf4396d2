/- slices.symMergeCmpFunc at strings: its third branch, the recursion by hypothesis; then the whole. -/
import Derived.Test.YtkabmmpccfeffaaSortZ
namespace Go.Proofs.Ytkabmmpccfeffaa
open Go.RowKit
set_option linter.unusedVariables false
set_option linter.unusedSimpArgs false

theorem two_sorted {lt : Nat → Nat → Prop} {σ : Nat → Nat} {a m b : Nat} (T : Two lt σ a m b) (h : m ≤ a ∨ b ≤ m) : Srt lt σ a b := by
  intro k l h1 h2 h3
  rcases h with h | h
  · exact T.right k l (by omega) h2 h3
  · exact T.left k l h1 h2 (by omega)

/-- What symMerge leaves, in the recursion. -/
def SymIH (d : Nat → ByteArray) (g n cap D : Nat) : Prop :=
  ∀ {w : World} {a m b : Nat} {σ : Nat → Nat} {A M B : Int}, A = a → M = m → B = b → b - a < D → Holds w g n cap d σ → Two (Prec d) σ a m b → a < m → m < b → b ≤ n →
    Calls Try.prog 135 #[.slice (some ⟨g, 0, none⟩) n cap, .int .i64 A, .int .i64 M, .int .i64 B, .func (.func 66) #[] #[]] w fun e w' => e = .returned (.tuple #[]) ∧ Sorted (Prec d) d σ g n cap a b w w'

theorem two_after {lt : Nat → Nat → Prop} {σ τ : Nat → Nat} {a mid e b : Nat} (T : Two lt σ mid e b) (h : Img σ τ a mid) (hme : mid ≤ e := by omega) : Two lt τ mid e b := by
  refine ⟨fun k l h1 h2 h3 => ?_, fun k l h1 h2 h3 => ?_, fun k l h1 h2 h3 h4 => ?_⟩
  · rw [h.out k (.inr h1), h.out l (.inr (by omega))]; exact T.left k l h1 h2 h3
  · rw [h.out k (.inr (by omega)), h.out l (.inr (by omega))]; exact T.right k l h1 h2 h3
  · rw [h.out k (.inr h1), h.out l (.inr (by omega))]; exact T.tag k l h1 h2 h3 h4

set_option maxRecDepth 100000 in
set_option maxHeartbeats 16000000 in
theorem sym_high (d : Nat → ByteArray) (hd : ∀ i, (d i).size ≤ 65536) (O : Ord (Prec d)) {w : World} {g n cap a m b mid : Nat} {σ : Nat → Nat} (IH : SymIH d g n cap (b - a)) (H : Holds w g n cap d σ) (T : Two (Prec d) σ a m b) (ham : a + 1 < m) (hmb : m + 1 < b) (hb : b ≤ n) (hn : n ≤ 1000000)
    (hmid : mid = (a + b) / 2) (hcase : mid < m) :
    Calls Try.prog 135 #[.slice (some ⟨g, 0, none⟩) n cap, .int .i64 a, .int .i64 m, .int .i64 b, .func (.func 66) #[] #[]] w fun e w' => e = .returned (.tuple #[]) ∧ Sorted (Prec d) d σ g n cap a b w w' := by
  have HH := Lib.hid H
  have HT := Lib.hid T
  have HD := Lib.hid hd
  have HO := Lib.hid O
  have HSP : Hid (Span a m b (mid + m - 1) (mid + m - b) (mid)) := ⟨by omega, by omega, fun c h1 h2 => ⟨by omega, by omega, by omega⟩⟩
  obtain ⟨hc1, hc2⟩ := H.cap_le
  unfold maxLen at hc2
  have e0 : ((m : Int) - (a : Int) == 1) = false := by rw [beq_eq_false_iff_ne]; omega
  have e1 : ((b : Int) - (m : Int) == 1) = false := by rw [beq_eq_false_iff_ne]; omega
  have g1 : a < mid := by omega
  have g2 : mid < b := by omega
  have g3 : 2 * mid ≤ a + b := by omega
  have g4 : a + b ≤ 2 * mid + 1 := by omega
  have e2 : ((a : Int) + (b : Int)) / 2 = (mid : Int) := by omega
  clear H T hd O hmid
  go_enter Try.func135, Try.ntmps135
  go_wp2_with fail
  go_loopw [20, 21] (fun i j wr => ∃ x y : Nat, mid + m - b ≤ x ∧ x ≤ y ∧ y ≤ mid ∧ i = .int .i64 x ∧ j = .int .i64 y ∧ Hid (Holds wr g n cap d σ ∧ Only g w wr ∧ Seek (Prec d) σ (mid + m - 1) (mid + m - b) (mid) x y)) (fun i j _ => (intOf j).toNat - (intOf i).toNat)
  case atStart => exact ⟨mid + m - b, mid, by omega, by omega, by omega, by first | rfl | (congr 1; omega), by first | rfl | (congr 1; omega), HH.out, Only.refl _ _, ⟨Nat.le_refl _, by omega, Nat.le_refl _, fun c h1 h2 => by omega, fun c h1 h2 => by omega⟩⟩
  case round =>
    obtain ⟨x, y, hx1, hxy, hy1, rfl, rfl, HK⟩ := hrel
    by_cases hlt : x < y
    · have HH1 := Lib.hid HK.out.1
      obtain ⟨p, hp⟩ : ∃ p, p = mid + m - 1 := ⟨_, rfl⟩
      obtain ⟨c, hcc⟩ : ∃ c, c = (x + y) / 2 := ⟨_, rfl⟩
      have hxh : x ≤ c := by omega
      have hhy : c < y := by omega
      have hs3 := HSP.out.h3 c (by omega) (by omega)
      have c0 := HH1.out.cell (k := mid + m - 1 - c) (by omega)
      have c1 := HH1.out.cell (k := c) (by omega)
      have b1 : ((x : Int) + (y : Int)) / 2 = (c : Int) := by omega
      have b2 : (0 : Int) ≤ (c : Int) := by omega
      have b3 : (c : Int) < (n : Int) := by omega
      have b4 : (0 : Int) ≤ (mid : Int) + (m : Int) - 1 - (c : Int) := by omega
      have b5 : (mid : Int) + (m : Int) - 1 - (c : Int) < (n : Int) := by omega
      have b6 : ((mid : Int) + (m : Int) - 1 - (c : Int)).toNat = mid + m - 1 - c := by omega
      clear hs3 hp hcc
      have HW1 : Hid ((x + y) / 2 = c) := by show (x + y) / 2 = c; omega
      by_cases hc : cmp (d (σ (mid + m - 1 - c))) (d (σ c)) < 0
      · have hcb : (!decide (cmp (d (σ (mid + m - 1 - c))) (d (σ c)) < 0)) = false := by simp [hc]
        have hdn := HK.out.2.2.down HO.out HT.out HSP.out hxh hhy (.inl hc)
        have HDN := Lib.hid hdn
        clear hdn
        go_wp2_with fail
        go_quiet ((go_at_call 66; exact Calls.quiet_of_same ((cmpf_any _ _ _ (HD.out _) (HD.out _)).mono fun _ _ h => ⟨h.1, h.2.symm⟩)))
        go_wp2_with fail
        go_roundw
        case rel => exact ⟨x, c, hx1, hxh, by omega, rfl, rfl, HH1.out.drewN _, HK.out.2.1.drewN _, HDN.out⟩
        case measure => simp [intOf]; omega
      · have hcb : (!decide (cmp (d (σ (mid + m - 1 - c))) (d (σ c)) < 0)) = true := by simp [hc]
        have htg : σ c < σ (mid + m - 1 - c) := by have := HSP.out.h3 c (by omega) (by omega); exact HT.out.tag c _ (by omega) (by omega) (by omega) (by omega)
        have hup := HK.out.2.2.up HO.out HT.out HSP.out hxh hhy (not_prec hc htg)
        have HUP := Lib.hid hup
        clear hup htg hc
        go_wp2_with fail
        go_quiet ((go_at_call 66; exact Calls.quiet_of_same ((cmpf_any _ _ _ (HD.out _) (HD.out _)).mono fun _ _ h => ⟨h.1, h.2.symm⟩)))
        go_wp2_with fail
        go_roundw
        case rel => exact ⟨c + 1, y, by omega, by omega, hy1, by go_num, rfl, HH1.out.drewN _, HK.out.2.1.drewN _, HUP.out⟩
        case measure => simp [intOf]; omega
    · obtain rfl : x = y := by omega
      have hcut := HK.out.2.2.cut HO.out HT.out HSP.out (by omega) (by omega) (by omega) (by omega) (by omega)
      rw [show mid + m - 1 + 1 - x = mid + m - x by omega] at hcut
      obtain ⟨s, rfl⟩ : ∃ s, s = x := ⟨_, rfl⟩
      obtain ⟨e, he⟩ : ∃ e, e = mid + m - s := ⟨_, rfl⟩
      have he2 : e + s = mid + m := by omega
      rw [← he] at hcut
      have hce := hcut.c1
      have hcf := hcut.c2
      have hcg := hcut.c3
      have hch := hcut.c4
      have htl := hcut.left HT.out
      have htr := hcut.right HT.out
      have hax := hcut.across HT.out
      rw [show s + (e - m) = mid by omega] at htl htr hax
      have HTL := Lib.hid htl
      have HTR := Lib.hid htr
      have HX := Lib.hid hax
      have HH1 := Lib.hid HK.out.1
      have HO1 := Lib.hid HK.out.2.1
      have e3 : (mid : Int) + (m : Int) - (s : Int) = (e : Int) := by omega
      clear hcut htl htr hax HK he HSP
      by_cases r1 : s < m ∧ m < e
      · by_cases r2 : a < s ∧ s < mid
        · by_cases r3 : mid < e ∧ e < b
          · first
              | (exfalso; omega)
              | (go_wp2_with (first | (go_at_call 165; refine (rotate_at d (a := s) (m := m) (b := e) (by omega) (by omega) (by omega) HH1.out (by omega) (by omega) (by omega) hn).mono ?_; rintro e1 w2 ⟨rfl, hh2, ho2⟩; have HH2 := Lib.hid hh2; have HO2 := Lib.hid ho2; clear hh2 ho2) | (go_at_call 135; refine (IH (a := a) (m := s) (b := mid) (by omega) (by omega) (by omega) (by omega) HH2.out HTL.out (by omega) (by omega) (by omega)).mono ?_; rintro e1 w3 ⟨rfl, τ, hh3, hi3, hs3, ho3⟩; have HH3 := Lib.hid hh3; have HI3 := Lib.hid hi3; have HS3 := Lib.hid hs3; have HO3 := Lib.hid ho3; clear hh3 hi3 hs3 ho3) | (go_at_call 135; refine (IH (a := mid) (m := e) (b := b) (by omega) (by omega) (by omega) (by omega) HH3.out (two_after HTR.out HI3.out) (by omega) (by omega) (by omega)).mono ?_; rintro e1 w4 ⟨rfl, υ, hh4, hi4, hs4, ho4⟩; have HH4 := Lib.hid hh4; have HI4 := Lib.hid hi4; have HS4 := Lib.hid hs4; have HO4 := Lib.hid ho4; clear hh4 hi4 hs4 ho4))
                 go_end0
                 exact ⟨rfl, _, HH4.out, ((Img.rot σ (by omega) (by omega)).wide (by omega) (by omega)).trans ((HI3.out.wide (Nat.le_refl _) (by omega)).trans (HI4.out.wide (by omega) (Nat.le_refl _))), srt_join HX.out HI3.out HI4.out HS3.out HS4.out, ((HO1.out.trans HO2.out).trans HO3.out).trans HO4.out⟩)
          · first
              | (exfalso; omega)
              | (go_wp2_with (first | (go_at_call 165; refine (rotate_at d (a := s) (m := m) (b := e) (by omega) (by omega) (by omega) HH1.out (by omega) (by omega) (by omega) hn).mono ?_; rintro e1 w2 ⟨rfl, hh2, ho2⟩; have HH2 := Lib.hid hh2; have HO2 := Lib.hid ho2; clear hh2 ho2) | (go_at_call 135; refine (IH (a := a) (m := s) (b := mid) (by omega) (by omega) (by omega) (by omega) HH2.out HTL.out (by omega) (by omega) (by omega)).mono ?_; rintro e1 w3 ⟨rfl, τ, hh3, hi3, hs3, ho3⟩; have HH3 := Lib.hid hh3; have HI3 := Lib.hid hi3; have HS3 := Lib.hid hs3; have HO3 := Lib.hid ho3; clear hh3 hi3 hs3 ho3))
                 go_end0
                 exact ⟨rfl, _, HH3.out, ((Img.rot σ (by omega) (by omega)).wide (by omega) (by omega)).trans ((HI3.out.wide (Nat.le_refl _) (by omega)).trans ((Img.refl _ _ _).wide (by omega) (Nat.le_refl _))), srt_join HX.out HI3.out (Img.refl _ _ _) HS3.out (two_sorted (two_after HTR.out HI3.out) (by omega)), (HO1.out.trans HO2.out).trans HO3.out⟩)
        · by_cases r3 : mid < e ∧ e < b
          · first
              | (exfalso; omega)
              | (go_wp2_with (first | (go_at_call 165; refine (rotate_at d (a := s) (m := m) (b := e) (by omega) (by omega) (by omega) HH1.out (by omega) (by omega) (by omega) hn).mono ?_; rintro e1 w2 ⟨rfl, hh2, ho2⟩; have HH2 := Lib.hid hh2; have HO2 := Lib.hid ho2; clear hh2 ho2) | (go_at_call 135; refine (IH (a := mid) (m := e) (b := b) (by omega) (by omega) (by omega) (by omega) HH2.out HTR.out (by omega) (by omega) (by omega)).mono ?_; rintro e1 w4 ⟨rfl, υ, hh4, hi4, hs4, ho4⟩; have HH4 := Lib.hid hh4; have HI4 := Lib.hid hi4; have HS4 := Lib.hid hs4; have HO4 := Lib.hid ho4; clear hh4 hi4 hs4 ho4))
                 go_end0
                 exact ⟨rfl, _, HH4.out, ((Img.rot σ (by omega) (by omega)).wide (by omega) (by omega)).trans (((Img.refl _ _ _).wide (Nat.le_refl _) (by omega)).trans (HI4.out.wide (by omega) (Nat.le_refl _))), srt_join HX.out (Img.refl _ _ _) HI4.out (two_sorted HTL.out (by omega)) HS4.out, (HO1.out.trans HO2.out).trans HO4.out⟩)
          · first
              | (exfalso; omega)
              | (go_wp2_with (first | (go_at_call 165; refine (rotate_at d (a := s) (m := m) (b := e) (by omega) (by omega) (by omega) HH1.out (by omega) (by omega) (by omega) hn).mono ?_; rintro e1 w2 ⟨rfl, hh2, ho2⟩; have HH2 := Lib.hid hh2; have HO2 := Lib.hid ho2; clear hh2 ho2))
                 go_end0
                 exact ⟨rfl, _, HH2.out, ((Img.rot σ (by omega) (by omega)).wide (by omega) (by omega)).trans (((Img.refl _ _ _).wide (Nat.le_refl _) (by omega)).trans ((Img.refl _ _ _).wide (by omega) (Nat.le_refl _))), srt_join HX.out (Img.refl _ _ _) (Img.refl _ _ _) (two_sorted HTL.out (by omega)) (two_sorted HTR.out (by omega)), HO1.out.trans HO2.out⟩)
      · have hhr : Holds wr g n cap d (rotF σ s m e) := by rw [rotF_triv _ _ _ _ (by omega) (by omega) (by omega)]; exact HH1.out
        have HHR := Lib.hid hhr
        clear hhr
        by_cases r2 : a < s ∧ s < mid
        · by_cases r3 : mid < e ∧ e < b
          · first
              | (exfalso; omega)
              | (go_wp2_with (first | (go_at_call 135; refine (IH (a := a) (m := s) (b := mid) (by omega) (by omega) (by omega) (by omega) HHR.out HTL.out (by omega) (by omega) (by omega)).mono ?_; rintro e1 w3 ⟨rfl, τ, hh3, hi3, hs3, ho3⟩; have HH3 := Lib.hid hh3; have HI3 := Lib.hid hi3; have HS3 := Lib.hid hs3; have HO3 := Lib.hid ho3; clear hh3 hi3 hs3 ho3) | (go_at_call 135; refine (IH (a := mid) (m := e) (b := b) (by omega) (by omega) (by omega) (by omega) HH3.out (two_after HTR.out HI3.out) (by omega) (by omega) (by omega)).mono ?_; rintro e1 w4 ⟨rfl, υ, hh4, hi4, hs4, ho4⟩; have HH4 := Lib.hid hh4; have HI4 := Lib.hid hi4; have HS4 := Lib.hid hs4; have HO4 := Lib.hid ho4; clear hh4 hi4 hs4 ho4))
                 go_end0
                 exact ⟨rfl, _, HH4.out, ((Img.rot σ (by omega) (by omega)).wide (by omega) (by omega)).trans ((HI3.out.wide (Nat.le_refl _) (by omega)).trans (HI4.out.wide (by omega) (Nat.le_refl _))), srt_join HX.out HI3.out HI4.out HS3.out HS4.out, ((HO1.out).trans HO3.out).trans HO4.out⟩)
          · first
              | (exfalso; omega)
              | (go_wp2_with (first | (go_at_call 135; refine (IH (a := a) (m := s) (b := mid) (by omega) (by omega) (by omega) (by omega) HHR.out HTL.out (by omega) (by omega) (by omega)).mono ?_; rintro e1 w3 ⟨rfl, τ, hh3, hi3, hs3, ho3⟩; have HH3 := Lib.hid hh3; have HI3 := Lib.hid hi3; have HS3 := Lib.hid hs3; have HO3 := Lib.hid ho3; clear hh3 hi3 hs3 ho3))
                 go_end0
                 exact ⟨rfl, _, HH3.out, ((Img.rot σ (by omega) (by omega)).wide (by omega) (by omega)).trans ((HI3.out.wide (Nat.le_refl _) (by omega)).trans ((Img.refl _ _ _).wide (by omega) (Nat.le_refl _))), srt_join HX.out HI3.out (Img.refl _ _ _) HS3.out (two_sorted (two_after HTR.out HI3.out) (by omega)), (HO1.out).trans HO3.out⟩)
        · by_cases r3 : mid < e ∧ e < b
          · first
              | (exfalso; omega)
              | (go_wp2_with (first | (go_at_call 135; refine (IH (a := mid) (m := e) (b := b) (by omega) (by omega) (by omega) (by omega) HHR.out HTR.out (by omega) (by omega) (by omega)).mono ?_; rintro e1 w4 ⟨rfl, υ, hh4, hi4, hs4, ho4⟩; have HH4 := Lib.hid hh4; have HI4 := Lib.hid hi4; have HS4 := Lib.hid hs4; have HO4 := Lib.hid ho4; clear hh4 hi4 hs4 ho4))
                 go_end0
                 exact ⟨rfl, _, HH4.out, ((Img.rot σ (by omega) (by omega)).wide (by omega) (by omega)).trans (((Img.refl _ _ _).wide (Nat.le_refl _) (by omega)).trans (HI4.out.wide (by omega) (Nat.le_refl _))), srt_join HX.out (Img.refl _ _ _) HI4.out (two_sorted HTL.out (by omega)) HS4.out, (HO1.out).trans HO4.out⟩)
          · first
              | (exfalso; omega)
              | (go_wp2_with fail
                 go_end0
                 exact ⟨rfl, _, HHR.out, ((Img.rot σ (by omega) (by omega)).wide (by omega) (by omega)).trans (((Img.refl _ _ _).wide (Nat.le_refl _) (by omega)).trans ((Img.refl _ _ _).wide (by omega) (Nat.le_refl _))), srt_join HX.out (Img.refl _ _ _) (Img.refl _ _ _) (two_sorted HTL.out (by omega)) (two_sorted HTR.out (by omega)), HO1.out⟩)

end Go.Proofs.Ytkabmmpccfeffaa
