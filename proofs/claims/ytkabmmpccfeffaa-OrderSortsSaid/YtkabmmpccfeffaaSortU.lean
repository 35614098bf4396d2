/- slices.Clone and order.Sort at strings: by contract. -/
import Derived.Test.YtkabmmpccfeffaaSortT
import Derived.Laws.Cover3
namespace Go.Proofs.Ytkabmmpccfeffaa
open Go.RowKit
set_option linter.unusedVariables false
set_option linter.unusedSimpArgs false

theorem Strs.reads {w : World} {A : Option Addr} {n : Nat} {d : Nat → ByteArray} (h : Strs w A n d) : Reads w 1 A n (vals d id n) := by
  refine ⟨by rw [vals_length, Nat.mul_one], fun hn => ?_⟩
  obtain ⟨ad, rfl, _⟩ := h 0 hn
  refine ⟨ad, rfl, fun j u hu => ?_⟩
  have hj : j < n := by have := (List.getElem?_eq_some_iff.1 hu).1; rwa [vals_length] at this
  rw [vals_get _ _ hj] at hu
  injection hu with hu
  subst hu
  obtain ⟨ad', e, hc⟩ := h j hj
  injection e with e
  subst e
  exact hc
theorem own_strs {w : World} {B n c : Nat} {A : Option Addr} {d : Nat → ByteArray} {τ : Nat → Nat} (h : w.ownsRow B 9 1 (.slice A n c) n (vals d τ n)) : Strs w A n (fun i => d (τ i)) := fun i hi => by
  obtain ⟨ad, rfl, hc⟩ := (Reads.of_own h).at_ (vals_get d τ hi) (by omega)
  exact ⟨ad, rfl, hc⟩
theorem own_some {w : World} {B n c : Nat} {A : Option Addr} {xs : List Value} (h : w.ownsRow B 9 1 (.slice A n c) n xs) (hb : ∃ k, (Value.slice A n c).ownBlock = some k) : ∃ g, A = some ⟨g, 0, none⟩ ∧ B ≤ g := by
  rcases h.2 with ⟨hv, _⟩ | ⟨g, _, _, hv, hg, _⟩
  · obtain ⟨k, hk⟩ := hb
    rw [hv] at hk
    cases hk
  · injection hv with hv
    exact ⟨g, hv, hg⟩
theorem own_holds {w : World} {B n c g : Nat} {d : Nat → ByteArray} {τ : Nat → Nat} (h : w.ownsRow B 9 1 (.slice (some ⟨g, 0, none⟩) n c) n (vals d τ n)) : Holds w g n c d τ := by
  rcases h.2 with ⟨hv, _⟩ | ⟨g', cap, cur, hv, hg, hh, hn, hm, hs, ht⟩
  · cases hv
  · injection hv with h1 h2 h3
    injection h1 with h1
    injection h1 with h1
    subst h1; subst h3
    refine ⟨cur, hh, hn, by omega, hm, fun k hk => ?_⟩
    have := vals_get d τ hk
    rw [← ht, List.getElem?_take, if_pos (by omega)] at this
    simpa using this

theorem eql_nil {P : Program} (w : World) (t e : TypeId) (a : Option Addr) (l c : Nat) (h : P.underlying t = some (.slice e)) : (binOp .eql t (.slice a l c) (.slice none 0 0)).run P w = .ok (.bool a.isNone) w := by
  simp only [binOp]
  simp [run_equal_slice_nil w t e a l c h]

set_option maxRecDepth 100000 in
set_option maxHeartbeats 1000000 in
theorem clone_any (d : Nat → ByteArray) {w : World} {ad : Addr} {n cap : Nat} (h : Strs w (some ad) n d) (hn : n ≤ 100) :
    Calls Try.prog 64 #[.slice (some ad) n cap] w fun e w' => ∃ g c, e = .returned (.slice (some ⟨g, 0, none⟩) n c) ∧ Holds w' g n c d id ∧ w.heap.size ≤ g ∧ Below w.heap.size w w' := by
  have HR := Lib.hid h.reads
  clear h
  have hnil : ∀ W : World, (binOp .eql 48 (.slice (some ad) n cap) (.slice none 0 0)).run Try.prog W = .ok (.bool false) W := fun W => eql_nil W _ _ _ _ _ Try.underlying48
  go_enter Try.func64, Try.ntmps64
  go_wp2_with (at_builtin; go_loud (refine wpList_app rfl (.tmp 5) (.tmp 6) 48 rfl w.heap.size 9 _ 1 16 Try.underlying48 info_str2 rfl (by omega) _ 0 0 [] rfl (own_at0 1 (heap_new rfl) (by first | omega | (simp; done) | (simp; omega))) _ n _ (vals d id n) rfl (HR.out.alloc _) (vals_one _ _ _) (by unfold maxLen; omega) (by omega) (by first | omega | (simp; done) | (simp; omega)) ?_
                                    intro A3 c3 w1 hown hgr hkp hat
                                    simp only [Nat.zero_add, List.nil_append] at hown hgr hat
                                    have HAT : Hid (∃ k, (Value.slice A3 n c3).ownBlock = some k) := (by refine Lib.hid ?_; rcases hat with h | h <;> exact ⟨_, h⟩)
                                    have HOWN := Lib.hid hown
                                    have HBL : Hid (Below w.heap.size w w1) := (by refine Lib.hid ?_; exact ((Below.refl _ _).alloc (Nat.le_refl _) _).trans (hkp.below (by first | omega | (simp; done) | (simp; omega))))
                                    clear hown hgr hat hkp))
  go_ret
  obtain ⟨g, rfl, hg⟩ := own_some HOWN.out HAT.out
  exact ⟨g, c3, rfl, own_holds HOWN.out, hg, HBL.out⟩

set_option maxRecDepth 100000 in
set_option maxHeartbeats 1000000 in
theorem sort_any (d : Nat → ByteArray) (hd : ∀ i, (d i).size ≤ 65536) {w : World} {ad : Addr} {n cap : Nat} (h : Strs w (some ad) n d) (hn : n ≤ 100) :
    Calls Try.prog 30 #[.slice (some ad) n cap] w fun e w' => ∃ A c τ, e = .returned (.slice A n c) ∧ Strs w' A n (fun i => d (τ i)) ∧ Img id τ 0 n ∧ Srt (Prec d) τ 0 n ∧ Below w.heap.size w w' := by
  have HH := Lib.hid h
  have HD := Lib.hid hd
  clear h hd
  go_enter Try.func30, Try.ntmps30
  go_wp2_with (first
    | (go_at_call 64; refine (clone_any d HH.out hn).mono ?_; rintro e w1 ⟨g, c, rfl, hh, hg, hb⟩; have HO := Lib.hid hh; have HB := Lib.hid hb; clear hh hb)
    | (go_at_call 65; refine (sortStable_any d HD.out (prec_ord d) HO.out hn (fun x y h _ => h)).mono ?_; rintro e w2 ⟨rfl, hs⟩; have HS := Lib.hid hs; clear hs))
  go_ret
  obtain ⟨τ, h1, h2, h3, h4⟩ := HS.out
  refine ⟨_, _, τ, rfl, fun i hi => ⟨_, rfl, ?_⟩, h2, h3, ?_⟩
  · have := h1.cell hi
    by_cases h0 : i = 0
    · subst h0; simpa [Addr.add] using this
    · simpa [Addr.add, h0] using this
  · exact HB.out.trans ⟨h4.os, h4.tape, h4.output, h4.size, fun k hk => h4.block k (Nat.lt_of_lt_of_le hk HB.out.size) (by intro e; injection e with e; omega)⟩
end Go.Proofs.Ytkabmmpccfeffaa
