/- slices.insertionSortCmpFunc and swapRangeCmpFunc at strings, handed order.Sort's comparison: by contracts. -/
import Derived.Test.YtkabmmpccfeffaaProg
import Derived.Test.YtkabmmpccfeffaaStab2
import Derived.Test.YtkabmmpccfeffaaApp
import Derived.BigQuiet
import Derived.BigRegion
import Derived.Deep.QuietTactic
namespace Go.Proofs.Ytkabmmpccfeffaa
open Go.RowKit
set_option linter.unusedVariables false
set_option linter.unusedSimpArgs false

/-- The comparison that order.Sort hands on. -/
def fv : Value := .func (.func 66) #[] #[]

/-- The row at block g holds the strings d (σ 0), d (σ 1), .. -/
def Holds (w : World) (g n cap : Nat) (d : Nat → ByteArray) (σ : Nat → Nat) : Prop :=
  ∃ cur : Array Value, w.heap[g]? = some (.cells cur 9 (0, 0)) ∧ n ≤ cap ∧ cur.size = cap ∧ cap ≤ maxLen ∧ ∀ k, k < n → cur[k]? = some (.string (d (σ k)))

section
variable {w w' : World} {g n cap : Nat} {d : Nat → ByteArray} {σ : Nat → Nat}
theorem Holds.lt (h : Holds w g n cap d σ) : g < w.heap.size := by obtain ⟨cur, hb, _⟩ := h; exact blk_lt hb
theorem Holds.cell (h : Holds w g n cap d σ) {k : Nat} (hk : k < n) : w.cell? ⟨g, k, none⟩ = some (.string (d (σ k))) := by
  obtain ⟨cur, hb, _, _, _, hc⟩ := h
  rw [blk_cell hb, hc k hk]
theorem Holds.frozen (h : Holds w g n cap d σ) (k : Nat) : w.frozen? ⟨g, k, none⟩ = false := by
  obtain ⟨cur, hb, _⟩ := h
  exact blk_frozen hb k
theorem Holds.drew (h : Holds w g n cap d σ) : Holds w.drew g n cap d σ := h
theorem Holds.drewN (h : Holds w g n cap d σ) (m : Nat) : Holds (w.drewN m) g n cap d σ := h
theorem Holds.cap_le (h : Holds w g n cap d σ) : n ≤ cap ∧ cap ≤ maxLen := by
  obtain ⟨cur, _, h1, _, h2, _⟩ := h
  exact ⟨h1, h2⟩
theorem Holds.swp (h : Holds w g n cap d σ) {i j : Nat} (hi : i < n) (hj : j < n) (hne : i ≠ j) :
    Holds ((w.setCell ⟨g, i, none⟩ (.string (d (σ j)))).setCell ⟨g, j, none⟩ (.string (d (σ i)))) g n cap d (swp σ i j) := by
  obtain ⟨cur, hb, h1, h2, h3, hc⟩ := h
  refine ⟨_, blk_set (blk_set hb i _) j _, h1, by simpa using h2, h3, fun k hk => ?_⟩
  unfold Ytkabmmpccfeffaa.swp
  rw [Array.getElem?_setIfInBounds, Array.getElem?_setIfInBounds]
  by_cases e2 : k = j
  · subst e2
    rw [if_pos rfl, if_pos (by simp; omega), if_neg (fun e => hne e.symm), if_pos rfl]
  · rw [if_neg (fun e => e2 e.symm)]
    by_cases e1 : k = i
    · subst e1
      rw [if_pos rfl, if_pos (by omega), if_pos rfl]
    · rw [if_neg (fun e => e1 e.symm), if_neg e1, if_neg e2]
      exact hc k hk
theorem Holds.same {τ : Nat → Nat} (h : Holds w g n cap d σ) (e : ∀ k, k < n → τ k = σ k) : Holds w g n cap d τ := by
  obtain ⟨cur, hb, h1, h2, h3, hc⟩ := h
  exact ⟨cur, hb, h1, h2, h3, fun k hk => by rw [e k hk]; exact hc k hk⟩
end

/-- Block g alone may have changed. -/
abbrev Only (g : Nat) (w w' : World) : Prop := w.grownBy w' (some g)
theorem Only.refl (g : Nat) (w : World) : Only g w w := World.grownBy.refl w _
theorem Only.trans {g : Nat} {a b c : World} (h : Only g a b) (k : Only g b c) : Only g a c :=
  ⟨k.os.trans h.os, k.tape.trans h.tape, k.output.trans h.output, Nat.le_trans h.size k.size, fun i hi hn => (k.block i (Nat.lt_of_lt_of_le hi h.size) hn).trans (h.block i hi hn)⟩
theorem Only.drew {g : Nat} {a w : World} (h : Only g a w) : Only g a w.drew := ⟨h.os, h.tape, h.output, h.size, h.block⟩
theorem Only.drewN {g : Nat} {a w : World} (h : Only g a w) (n : Nat) : Only g a (w.drewN n) := ⟨h.os, h.tape, h.output, h.size, h.block⟩
theorem Only.set {g : Nat} {a w : World} (h : Only g a w) (i : Nat) (u : Value) : Only g a (w.setCell ⟨g, i, none⟩ u) :=
  ⟨h.os, h.tape, h.output, by simpa [World.setCell] using h.size, fun k hk hn => (Below.heap_setCell w ⟨g, i, none⟩ u k (fun e => hn (by rw [e]))).trans (h.block k hk hn)⟩

set_option maxHeartbeats 1000000 in
theorem cmpf_any (a b : ByteArray) (w : World) (ha : a.size ≤ 65536) (hb : b.size ≤ 65536) :
    Calls Try.prog 66 #[.string a, .string b] w fun e w' => e = .returned (.int .i64 (cmp a b)) ∧ w = w' := by
  go_enter Try.func66, Try.ntmps66
  go_wp2_with (go_at_call 56; refine (compare_any _ _ _ (by unfold maxLen; omega) (by unfold maxLen; omega)).mono ?_; rintro e w' ⟨rfl, rfl⟩)
  go_ret
  exact ⟨rfl, rfl⟩

/-- What a sort of [a, b) leaves. -/
def Sorted (lt : Nat → Nat → Prop) (d : Nat → ByteArray) (σ : Nat → Nat) (g n cap a b : Nat) (w w' : World) : Prop :=
  ∃ τ, Holds w' g n cap d τ ∧ Img σ τ a b ∧ Srt lt τ a b ∧ Only g w w'

def Prec (d : Nat → ByteArray) (i j : Nat) : Prop := cmp (d i) (d j) < 0 ∨ (cmp (d i) (d j) = 0 ∧ i < j)

/-- The end of an outer round of the insertion sort. -/
theorem ins_out {d : Nat → ByteArray} (O : Ord (Prec d)) {w wi : World} {g n cap a k m : Nat} {σ τ υ : Nat → Nat} (hI : Img σ τ a k) (hR : ∀ x, k ≤ x → τ x = σ x) (h : Holds wi g n cap d υ) (hi : Ins (Prec d) τ υ a k m) (ho : Only g w wi)
    (hd : a < m → ¬ cmp (d (υ m)) (d (υ (m - 1))) < 0) : ∃ τ, Holds wi g n cap d τ ∧ Img σ τ a (k + 1) ∧ Srt (Prec d) τ a (k + 1) ∧ (∀ x, k + 1 ≤ x → τ x = σ x) ∧ Only g w wi := by
  refine ⟨υ, h, (hI.wide (Nat.le_refl _) (by omega)).trans hi.img, hi.done O (fun ham hp => ?_), fun x hx => (hi.img.out x (.inr (by omega))).trans (hR x (by omega)), ho⟩
  rcases hp with hp | ⟨_, hp⟩
  · exact hd ham hp
  · have h1 := hi.tag (m - 1) (by omega) (by have := hi.ji; omega) (by omega)
    rw [hi.here] at hp
    omega

set_option maxRecDepth 100000 in
set_option maxHeartbeats 4000000 in
theorem insSort_any (d : Nat → ByteArray) (hd : ∀ i, (d i).size ≤ 65536) (O : Ord (Prec d)) {w : World} {g n cap a b : Nat} {σ : Nat → Nat} (H : Holds w g n cap d σ) (hab : a ≤ b) (hb : b ≤ n) (hn : n ≤ 1000000)
    (htag : ∀ k l, a ≤ k → k < l → l < b → σ k < σ l) :
    Calls Try.prog 134 #[.slice (some ⟨g, 0, none⟩) n cap, .int .i64 a, .int .i64 b, fv] w fun e w' => e = .returned (.tuple #[]) ∧ Sorted (Prec d) d σ g n cap a b w w' := by
  have HH := Lib.hid H
  have HT := Lib.hid htag
  have HD := Lib.hid hd
  have HO := Lib.hid O
  have hcap := H.cap_le
  obtain ⟨hc1, hc2⟩ := hcap
  unfold maxLen at hc2
  clear H htag hd O
  unfold fv
  go_enter Try.func134, Try.ntmps134
  go_wp2_with fail
  go_loopw [8] (fun i wr => ∃ k : Nat, a + 1 ≤ k ∧ (k ≤ b ∨ k = a + 1) ∧ i = .int .i64 k ∧ Hid (∃ τ, Holds wr g n cap d τ ∧ Img σ τ a k ∧ Srt (Prec d) τ a k ∧ (∀ x, k ≤ x → τ x = σ x) ∧ Only g w wr)) (fun i _ => b - (intOf i).toNat)
  case atStart => exact ⟨a + 1, Nat.le_refl _, .inr rfl, by go_num, σ, HH.out, Img.refl _ _ _, fun k l h1 h2 h3 => by omega, fun _ _ => rfl, Only.refl _ _⟩
  case round =>
    obtain ⟨k, hk1, hk2, rfl, HK⟩ := hrel
    obtain ⟨τ, hh, himg, hsrt, hrest, honly⟩ := HK.out
    have HH1 := Lib.hid hh
    have HI1 := Lib.hid himg
    have HS1 := Lib.hid hsrt
    have HR1 := Lib.hid hrest
    have HO1 := Lib.hid honly
    clear hh himg hsrt hrest honly HK
    by_cases hlt : k < b
    · have hst : Ins (Prec d) τ τ a k k := Ins.start (by omega) HS1.out (fun x h1 h2 => by
        rw [HR1.out k (Nat.le_refl _)]
        obtain ⟨y, y1, y2, e⟩ := HI1.out.into x h1 h2
        rw [e]
        exact HT.out y k y1 y2 hlt)
      have HST := Lib.hid hst
      clear hst
      go_wp2_with fail
      obtain ⟨wo, rfl⟩ : ∃ wo : World, wo = wr := ⟨_, rfl⟩
      go_loopw [9] (fun j wi => ∃ m : Nat, m ≤ k ∧ j = .int .i64 m ∧ Hid (∃ υ, Holds wi g n cap d υ ∧ Ins (Prec d) τ υ a k m ∧ Only g w wi)) (fun j _ => (intOf j).toNat)
      case atStart => exact ⟨k, Nat.le_refl _, rfl, τ, HH1.out, HST.out, HO1.out⟩
      case round =>
        obtain ⟨m, hm, rfl, HK⟩ := hrel
        obtain ⟨υ, hh, hins, honly⟩ := HK.out
        have HH2 := Lib.hid hh
        have HI2 := Lib.hid hins
        have HO2 := Lib.hid honly
        have ham : a ≤ m := hins.aj
        clear hh hins honly HK
        by_cases hgt : a < m
        · obtain ⟨j, rfl⟩ : ∃ j, m = j + 1 := ⟨m - 1, by omega⟩
          have c0 := HH2.out.cell (k := j) (by omega)
          have c1 := HH2.out.cell (k := j + 1) (by omega)
          have f0 := HH2.out.frozen j
          have f1 := HH2.out.frozen (j + 1)
          have b0 : (0 : Int) ≤ (j : Int) := by omega
          have b1 : (j : Int) < (n : Int) := by omega
          have b2 : (0 : Int) ≤ (j : Int) + 1 := by omega
          have b3 : (j : Int) + 1 < (n : Int) := by omega
          have b4 : (a : Int) < (j : Int) + 1 := by omega
          have b5 : IntKind.i64.wrap ((j : Int) + 1 - 1) = j := IntWalk.i64_in _ (by omega) |>.trans (by omega)
          have b6 : IntKind.i64.wrap (j : Int) = j := IntWalk.i64_in _ (by omega)
          by_cases hc : cmp (d (υ (j + 1))) (d (υ j)) < 0
          · go_wp2_with fail
            go_quiet ((go_at_call 66; exact Calls.quiet_of_same ((cmpf_any _ _ _ (HD.out _) (HD.out _)).mono fun _ _ h => ⟨h.1, h.2.symm⟩)))
            go_wp2_with fail
            go_region
            go_wp2_with fail
            go_roundw
            case rel => exact ⟨j, by omega, by go_num, swp υ (j + 1) j, HH2.out.swp (by omega) (by omega) (by omega), HI2.out.step (by omega) (.inl hc), ((HO2.out.drewN _).set _ _).set _ _⟩
            case measure => simp [intOf]
          · have hc' : ¬ cmp (d (υ (j + 1))) (d (υ j)) < 0 := hc
            have HC := Lib.hid hc'
            clear hc'
            go_wp2_with fail
            go_quiet ((go_at_call 66; exact Calls.quiet_of_same ((cmpf_any _ _ _ (HD.out _) (HD.out _)).mono fun _ _ h => ⟨h.1, h.2.symm⟩)))
            go_wp2_with fail
            go_roundw
            case rel => exact ⟨k + 1, by omega, by omega, by go_num, ins_out HO.out HI1.out HR1.out (HH2.out.drewN _) HI2.out (HO2.out.drewN _) (fun _ => by have := HC.out; simpa using this)⟩
            case measure => simp [intOf]; omega
        · have hg1 : decide ((a : Int) < (m : Int)) = false := by simp; omega
          go_wp2_with fail
          go_quiet (fail)
          go_wp2_with fail
          go_roundw
          case rel => exact ⟨k + 1, by omega, by omega, by go_num, ins_out HO.out HI1.out HR1.out (HH2.out.drewN _) HI2.out (HO2.out.drewN _) (fun h => absurd h hgt)⟩
          case measure => simp [intOf]; omega
    · go_wp2_with fail
      go_end0
      refine ⟨rfl, τ, HH1.out, ?_, ?_, HO1.out⟩
      · rcases hk2 with h | h
        · rw [show b = k by omega]; exact HI1.out
        · subst h
          have e : τ = σ := by
            funext x
            by_cases c : x = a
            · obtain ⟨l, l1, l2, el⟩ := HI1.out.into x (by omega) (by omega)
              rw [el, show l = x by omega]
            · exact HI1.out.out x (by omega)
          rw [e]
          exact Img.refl _ _ _
      · intro x l h1 h2 h3
        exact HS1.out x l h1 h2 (by omega)

set_option maxRecDepth 100000 in
set_option maxHeartbeats 4000000 in
theorem swapRange_any (d : Nat → ByteArray) {w : World} {g n cap a b k : Nat} {σ : Nat → Nat} (H : Holds w g n cap d σ) (hab : a + k ≤ b) (hb : b + k ≤ n) (hn : n ≤ 1000000) :
    Calls Try.prog 188 #[.slice (some ⟨g, 0, none⟩) n cap, .int .i64 a, .int .i64 b, .int .i64 k, fv] w fun e w' => e = .returned (.tuple #[]) ∧ Holds w' g n cap d (swapR σ a b k) ∧ Only g w w' := by
  have HH := Lib.hid H
  have hcap := H.cap_le
  obtain ⟨hc1, hc2⟩ := hcap
  unfold maxLen at hc2
  clear H
  unfold fv
  go_enter Try.func188, Try.ntmps188
  go_wp2_with fail
  go_loopw [10] (fun i wr => ∃ m : Nat, m ≤ k ∧ i = .int .i64 m ∧ Hid (Holds wr g n cap d (swapR σ a b m) ∧ Only g w wr)) (fun i _ => k - (intOf i).toNat)
  case atStart => exact ⟨0, Nat.zero_le _, rfl, by rw [swapR_zero]; exact HH.out, Only.refl _ _⟩
  case round =>
    obtain ⟨m, hm, rfl, HK⟩ := hrel
    by_cases hlt : m < k
    · have HH1 := Lib.hid HK.out.1
      have HO1 := Lib.hid HK.out.2
      have c0 := HH1.out.cell (k := a + m) (by omega)
      have c1 := HH1.out.cell (k := b + m) (by omega)
      have f0 := HH1.out.frozen (a + m)
      have f1 := HH1.out.frozen (b + m)
      generalize hx : d (swapR σ a b m (a + m)) = x at c0
      generalize hy : d (swapR σ a b m (b + m)) = y at c1
      have HX := Lib.hid hx
      have HY := Lib.hid hy
      clear hx hy
      have b0 : (0 : Int) ≤ (a : Int) + (m : Int) := by omega
      have b1 : (a : Int) + (m : Int) < (n : Int) := by omega
      have b2 : (0 : Int) ≤ (b : Int) + (m : Int) := by omega
      have b3 : (b : Int) + (m : Int) < (n : Int) := by omega
      have b4 : ((a : Int) + (m : Int)).toNat = a + m := by omega
      have b5 : ((b : Int) + (m : Int)).toNat = b + m := by omega
      have b6 : a + m ≠ b + m := by omega
      have b7 : b + m ≠ a + m := by omega
      clear HK
      go_wp2_with fail
      go_region
      go_wp2_with fail
      go_roundw
      case rel =>
        refine ⟨m + 1, by omega, by go_num, ?_, ((HO1.out.drew).set _ _).set _ _⟩
        rw [swapR_succ _ _ _ _ (by omega), ← HX.out, ← HY.out]
        exact HH1.out.swp (by omega) (by omega) (by omega)
      case measure => simp [intOf]; omega
    · go_wp2_with fail
      go_end0
      obtain rfl : m = k := by omega
      exact ⟨rfl, HK.out.1, HK.out.2⟩
end Go.Proofs.Ytkabmmpccfeffaa
