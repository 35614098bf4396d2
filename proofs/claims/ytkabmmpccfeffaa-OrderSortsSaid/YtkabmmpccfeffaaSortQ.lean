/- slices.stableCmpFunc, SortStableFunc at strings: by contract (at most 100 elements). -/
import Derived.Test.YtkabmmpccfeffaaSortP
namespace Go.Proofs.Ytkabmmpccfeffaa
open Go.RowKit
set_option linter.unusedVariables false
set_option linter.unusedSimpArgs false

theorem insSort_at (d : Nat → ByteArray) (hd : ∀ i, (d i).size ≤ 65536) (O : Ord (Prec d)) {w : World} {g n cap a b : Nat} {σ : Nat → Nat} {A B : Int} (hA : A = a) (hB : B = b) (H : Holds w g n cap d σ) (hab : a ≤ b) (hb : b ≤ n) (hn : n ≤ 1000000)
    (htag : ∀ k l, a ≤ k → k < l → l < b → σ k < σ l) :
    Calls Try.prog 134 #[.slice (some ⟨g, 0, none⟩) n cap, .int .i64 A, .int .i64 B, .func (.func 66) #[] #[]] w fun e w' => e = .returned (.tuple #[]) ∧ Sorted (Prec d) d σ g n cap a b w w' := by
  subst hA; subst hB
  exact insSort_any d hd O H hab hb hn htag

theorem sym_at (d : Nat → ByteArray) (hd : ∀ i, (d i).size ≤ 65536) (O : Ord (Prec d)) {w : World} {g n cap a m b : Nat} {σ : Nat → Nat} {A M B : Int} (hA : A = a) (hM : M = m) (hB : B = b) (H : Holds w g n cap d σ) (T : Two (Prec d) σ a m b) (ham : a < m) (hmb : m < b) (hb : b ≤ n) (hn : n ≤ 1000000) :
    Calls Try.prog 135 #[.slice (some ⟨g, 0, none⟩) n cap, .int .i64 A, .int .i64 M, .int .i64 B, .func (.func 66) #[] #[]] w fun e w' => e = .returned (.tuple #[]) ∧ Sorted (Prec d) d σ g n cap a b w w' :=
  sym_all d hd O g n cap hn (b - a + 1) hA hM hB (by omega) H T ham hmb hb

set_option maxRecDepth 100000 in
set_option maxHeartbeats 8000000 in
theorem stable_any (d : Nat → ByteArray) (hd : ∀ i, (d i).size ≤ 65536) (O : Ord (Prec d)) {w : World} {g n cap : Nat} {σ : Nat → Nat} (H : Holds w g n cap d σ) (hn : n ≤ 100) (hσ : ∀ x y, x < y → y < n → σ x < σ y) :
    Calls Try.prog 98 #[.slice (some ⟨g, 0, none⟩) n cap, .int .i64 n, .func (.func 66) #[] #[]] w fun e w' => e = .returned (.tuple #[]) ∧ Sorted (Prec d) d σ g n cap 0 n w w' := by
  have HH := Lib.hid H
  have HD := Lib.hid hd
  have HO := Lib.hid O
  have HG := Lib.hid hσ
  clear H hd O hσ
  go_enter Try.func98, Try.ntmps98
  go_wp2_with fail
  go_loopw [7, 8] (fun i j wr => ∃ A : Nat, A ≤ n ∧ i = .int .i64 A ∧ j = .int .i64 (A + 20) ∧ Hid (∃ τ, Holds wr g n cap d τ ∧ P20 (Prec d) σ τ n A ∧ Img σ τ 0 n ∧ Only g w wr)) (fun i _ _ => n - (intOf i).toNat)
  case atStart => exact ⟨0, Nat.zero_le _, rfl, rfl, σ, HH.out, P20.start _ _, Img.refl _ _ _, Only.refl _ _⟩
  case round =>
    obtain ⟨a, ha, rfl, rfl, HK⟩ := hrel
    obtain ⟨τ, hh, hp, him, ho⟩ := HK.out
    have HH1 := Lib.hid hh
    have HP1 := Lib.hid hp
    have HI1 := Lib.hid him
    have HO1 := Lib.hid ho
    clear hh hp him ho HK
    by_cases hlt : a + 20 ≤ n
    · go_wp2_with (go_at_call 134; refine (insSort_at d HD.out HO.out (a := a) (b := a + 20) (by omega) (by omega) HH1.out (by omega) hlt (by omega) (HP1.out.tag HG.out hlt)).mono ?_; rintro e w1 ⟨rfl, υ, hh2, hi2, hs2, ho2⟩; have HH2 := Lib.hid hh2; have HI2 := Lib.hid hi2; have HS2 := Lib.hid hs2; have HO2 := Lib.hid ho2; clear hh2 hi2 hs2 ho2)
      go_roundw
      case rel => exact ⟨a + 20, hlt, by first | rfl | go_num, by congr 1, υ, HH2.out, HP1.out.next HI2.out HS2.out, HI1.out.trans (HI2.out.wide (Nat.zero_le _) hlt), HO1.out.trans HO2.out⟩
      case measure => simp [intOf]; omega
    · go_wp2_with (go_at_call 134; refine (insSort_at d HD.out HO.out (a := a) (b := n) (by omega) (by omega) HH1.out ha (Nat.le_refl _) (by omega) (HP1.out.tag HG.out (Nat.le_refl _))).mono ?_; rintro e w1 ⟨rfl, υ, hh2, hi2, hs2, ho2⟩; have HH2 := Lib.hid hh2; have HI2 := Lib.hid hi2; have HS2 := Lib.hid hs2; have HO2 := Lib.hid ho2; clear hh2 hi2 hs2 ho2)
      have hB : Hid (Blk (Prec d) υ 20 n) := HP1.out.last ha (by omega) HG.out HI2.out HS2.out
      have HI3 := Lib.hid (HI1.out.trans (HI2.out.wide (Nat.zero_le _) (Nat.le_refl _)))
      have HO3 := Lib.hid (HO1.out.trans HO2.out)
      clear HI2 HS2 HI1 HO1 HO2 HP1 HH1 HH
      obtain ⟨wo, rfl⟩ : ∃ wo : World, wo = wr := ⟨_, rfl⟩
      go_loopw [6] (fun s wi => ∃ bs : Nat, (bs = 20 ∨ bs = 40 ∨ bs = 80 ∨ bs = 160) ∧ s = .int .i64 bs ∧ Hid (∃ τ, Holds wi g n cap d τ ∧ Blk (Prec d) τ bs n ∧ Img σ τ 0 n ∧ Only g w wi)) (fun s _ => 200 - (intOf s).toNat)
      case atStart => exact ⟨20, .inl rfl, rfl, υ, HH2.out, hB.out, HI3.out, HO3.out⟩
      case round =>
        obtain ⟨bs, hbs, rfl, HK⟩ := hrel
        obtain ⟨τ, hh, hp, him, ho⟩ := HK.out
        have HH4 := Lib.hid hh
        have HB4 := Lib.hid hp
        have HI4 := Lib.hid him
        have HO4 := Lib.hid ho
        have HBS := Lib.hid hbs
        have hb1 : bs ≤ 160 := by omega
        have hb2 : 20 ≤ bs := by omega
        clear hh hp him ho HK hbs
        by_cases hlt2 : bs < n
        · have hbs3 : Hid (bs = 20 ∨ bs = 40 ∨ bs = 80) := by have h := HBS.out; show _ ∨ _ ∨ _; omega
          go_wp2_with fail
          obtain ⟨wo2, rfl⟩ : ∃ wo2 : World, wo2 = wr := ⟨_, rfl⟩
          go_loopw [7, 8] (fun i j wi2 => ∃ A : Nat, A ≤ n ∧ i = .int .i64 A ∧ j = .int .i64 (A + 2 * bs) ∧ Hid (∃ τ, Holds wi2 g n cap d τ ∧ Mg (Prec d) τ bs n A ∧ Img σ τ 0 n ∧ Only g w wi2)) (fun i _ _ => n - (intOf i).toNat)
          case atStart => exact ⟨0, Nat.zero_le _, rfl, by first | rfl | (congr 1; done) | (congr 1; omega), τ, HH4.out, Mg.start hbs3.out HB4.out, HI4.out, HO4.out⟩
          case round =>
            obtain ⟨a, ha, rfl, rfl, HK⟩ := hrel
            obtain ⟨ρ, hh, hp, him, ho⟩ := HK.out
            have HH5 := Lib.hid hh
            have HM5 := Lib.hid hp
            have HI5 := Lib.hid him
            have HO5 := Lib.hid ho
            clear hh hp him ho HK
            by_cases hlt3 : a + 2 * bs ≤ n
            · go_wp2_with (go_at_call 135; refine (sym_at d HD.out HO.out (a := a) (m := a + bs) (b := a + 2 * bs) (by omega) (by omega) (by omega) HH5.out (HM5.out.two hbs3.out (by omega) (Nat.le_refl _) hlt3) (by omega) (by omega) hlt3 (by omega)).mono ?_; rintro e w6 ⟨rfl, υ, hh2, hi2, hs2, ho2⟩; have HH6 := Lib.hid hh2; have HI6 := Lib.hid hi2; have HS6 := Lib.hid hs2; have HO6 := Lib.hid ho2; clear hh2 hi2 hs2 ho2)
              go_roundw
              case rel => exact ⟨a + 2 * bs, hlt3, by first | rfl | (congr 1; done) | (congr 1; omega), by first | rfl | (congr 1; done) | (congr 1; omega), υ, HH6.out, HM5.out.next hbs3.out hlt3 HI6.out HS6.out, HI5.out.trans (HI6.out.wide (Nat.zero_le _) hlt3), HO5.out.trans HO6.out⟩
              case measure => simp [intOf]; omega
            · by_cases hlt4 : a + bs < n
              · go_wp2_with (go_at_call 135; refine (sym_at d HD.out HO.out (a := a) (m := a + bs) (b := n) (by omega) (by omega) (by omega) HH5.out (HM5.out.two hbs3.out (by omega) (by omega) (Nat.le_refl _)) (by omega) (by omega) (Nat.le_refl _) (by omega)).mono ?_; rintro e w6 ⟨rfl, υ, hh2, hi2, hs2, ho2⟩; have HH6 := Lib.hid hh2; have HI6 := Lib.hid hi2; have HS6 := Lib.hid hs2; have HO6 := Lib.hid ho2; clear hh2 hi2 hs2 ho2)
                go_roundw
                case rel => exact ⟨2 * bs, by have := hbs3.out; omega, by first | rfl | (congr 1; done) | (congr 1; omega), υ, HH6.out, HM5.out.last hbs3.out (by omega) (by omega) HI6.out HS6.out, HI5.out.trans (HI6.out.wide (Nat.zero_le _) (Nat.le_refl _)), HO5.out.trans HO6.out⟩
                case measure => simp [intOf]; omega
              · go_wp2_with fail
                go_roundw
                case rel => exact ⟨2 * bs, by have := hbs3.out; omega, by first | rfl | (congr 1; done) | (congr 1; omega), ρ, HH5.out, HM5.out.done hbs3.out (by omega), HI5.out, HO5.out⟩
                case measure => simp [intOf]; omega
        · go_wp2_with fail
          go_end0
          exact ⟨rfl, τ, HH4.out, HI4.out, HB4.out.all (by omega), HO4.out⟩

set_option maxRecDepth 100000 in
theorem sortStable_any (d : Nat → ByteArray) (hd : ∀ i, (d i).size ≤ 65536) (O : Ord (Prec d)) {w : World} {g n cap : Nat} {σ : Nat → Nat} (H : Holds w g n cap d σ) (hn : n ≤ 100) (hσ : ∀ x y, x < y → y < n → σ x < σ y) :
    Calls Try.prog 65 #[.slice (some ⟨g, 0, none⟩) n cap, .func (.func 66) #[] #[]] w fun e w' => e = .returned (.tuple #[]) ∧ Sorted (Prec d) d σ g n cap 0 n w w' := by
  have HH := Lib.hid H
  have HD := Lib.hid hd
  have HO := Lib.hid O
  have HG := Lib.hid hσ
  clear H hd O hσ
  go_enter Try.func65, Try.ntmps65
  go_wp2_with (go_at_call 98; refine (stable_any d HD.out HO.out HH.out hn HG.out).mono ?_; rintro e w1 ⟨rfl, hs⟩)
  go_end0
  exact ⟨rfl, hs⟩
end Go.Proofs.Ytkabmmpccfeffaa
