/- Layer 15 (value.Whole): by contract. -/
import Derived.Test.YtkabmmpccfeffaaVInv
import Derived.Outline
namespace Go.Proofs.Ytkabmmpccfeffaa
open Go.RowKit
set_option linter.unusedVariables false
set_option linter.unusedSimpArgs false
/-- The place of the first event that is wrong. -/
def vGo : CSt → List Ev → Option Int
  | _, [] => none
  | st, x :: l => match vLook st x with
    | none => some x.at_
    | some st' => vGo st' l
/-- What value.Whole tells: error, place. -/
def vWhole (b : ByteArray) (depth : Int) : Int × Int :=
  match vGo .any (mWhole b depth).1 with
  | some a => (7, a)
  | none => ((mWhole b depth).2.1, (mWhole b depth).2.2)
/-- Events of contents that are as long as their heads say: r bytes are to come. -/
def WFrom : Int → List Ev → Prop
  | _, [] => True
  | r, x :: l => if x.kind = 3 then 0 < r ∧ r ≤ 2305843009213693951 ∧ 0 ≤ x.b ∧ x.b ≤ 255 ∧ WFrom (r - 1) l else if x.kind = 2 then 0 ≤ x.h.len ∧ x.h.len ≤ 2305843009213693951 ∧ WFrom x.h.len l else WFrom r l
def VPost (w : World) (r : Int × Int) (e : Ending) (w' : World) : Prop := e = .returned (.tuple #[.int .i64 r.1, .int .i64 r.2]) ∧ Below w.heap.size w w'
theorem ChkIn.below {w w' : World} {B g : Nat} {st : CSt} {r : Int} (h : ChkIn w B g st r) (k : Below w.heap.size w w') : ChkIn w' B g st r := by
  obtain ⟨F, caps, hc, hp, hi⟩ := h
  exact ⟨F, caps, ⟨(k.block g (blk_lt hc.1)).trans hc.1, hc.2⟩, hp.below k, hi⟩
theorem vLook_next {st st' : CSt} {x : Ev} {r : Int} {l : List Ev} (h : vLook st x = some st') (hi : CInv st r) (hw : WFrom r (x :: l)) : ∃ r', CInv st' r' ∧ WFrom r' l := by
  unfold WFrom at hw
  unfold vLook at h
  by_cases k3 : x.kind = 3
  · rw [if_pos k3] at h hw
    exact ⟨r - 1, cPush_inv h hi hw.1 hw.2.2.1 hw.2.2.2.1, hw.2.2.2.2⟩
  rw [if_neg k3] at h hw
  by_cases k2 : x.kind = 2
  · rw [if_pos k2] at hw
    rw [if_neg (by omega)] at h
    by_cases c : x.h.cl = 0
    · rw [if_pos ⟨k2, c⟩] at h
      exact ⟨x.h.len, cStart_inv h hw.1 hw.2.1, hw.2.2⟩
    · rw [if_neg (by omega), if_pos k2] at h
      injection h with h
      subst h
      exact ⟨x.h.len, trivial, hw.2.2⟩
  rw [if_neg k2] at hw
  have : st' = st := by
    split at h
    · split at h
      · injection h with h; exact h.symm
      · cases h
    · rw [if_neg (fun e => k2 e.1)] at h
      first | (injection h with h; exact h.symm) | (rw [if_neg k2] at h; injection h with h; exact h.symm)
  subst this
  exact ⟨r, hi, hw⟩
theorem evCells_get : ∀ (l : List Ev) (k j : Nat) (hk : k < l.length), j < 7 → (evCells l)[k * 7 + j]? = (l[k]'hk).cells[j]? := by
  intro l
  induction l with
  | nil => intro k j hk; simp at hk
  | cons x l ih =>
    intro k j hk hj
    have hx : x.cells.length = 7 := rfl
    have e : evCells (x :: l) = x.cells ++ evCells l := rfl
    rw [e]
    cases k with
    | zero =>
      rw [List.getElem?_append_left (by rw [hx]; omega)]
      simp
    | succ k =>
      rw [List.getElem?_append_right (by rw [hx]; omega), hx, show (k + 1) * 7 + j - 7 = k * 7 + j by omega]
      exact ih k j (by simpa using hk) hj
theorem ev_at {w : World} {B : Nat} {A : Option Addr} {c : Nat} {l : List Ev} (h : EvRow w B (.slice A l.length c) l) (k : Nat) (hk : k < l.length) : ∃ g, A = some ⟨g, 0, none⟩ ∧
    w.cell? ⟨g, k * 7, none⟩ = some (.int .i64 (l[k]'hk).kind) ∧ w.cell? ⟨g, k * 7 + 1, none⟩ = some (.int .i64 (l[k]'hk).at_) ∧
    w.cell? ⟨g, k * 7 + 2, none⟩ = some (.int .i64 (l[k]'hk).h.cl) ∧ w.cell? ⟨g, k * 7 + 3, none⟩ = some (.int .i64 (l[k]'hk).h.tag) ∧ w.cell? ⟨g, k * 7 + 4, none⟩ = some (.bool (l[k]'hk).h.cons) ∧
    w.cell? ⟨g, k * 7 + 5, none⟩ = some (.int .i64 (l[k]'hk).h.len) ∧ w.cell? ⟨g, k * 7 + 6, none⟩ = some (.int .u8 (l[k]'hk).b) ∧ g < w.heap.size ∧ l.length ≤ 9223372036854775807 := by
  rcases h.2 with ⟨h1, h2⟩ | ⟨g, cap, cur, h1, hg, hh, hn1, hm1, _⟩
  · injection h1 with _ h1 _; omega
  · unfold maxLen at hm1
    injection h1 with h1 _ h3
    subst h1 h3
    have key : ∀ (j : Nat) (u : Value), j < 7 → (l[k]'hk).cells[j]? = some u → w.cell? ⟨g, k * 7 + j, none⟩ = some u := by
      intro j u hj hu
      have := h.cells (g := g) rfl (k * 7 + j) u (by rw [evCells_get l k j hk hj]; exact hu)
      rwa [show (⟨g, 0, none⟩ : Addr).add (k * 7 + j) = ⟨g, 0 + (k * 7 + j), none⟩ by unfold Addr.add; split <;> simp_all, Nat.zero_add] at this
    exact ⟨g, rfl, key 0 _ (by omega) rfl, key 1 _ (by omega) rfl, key 2 _ (by omega) rfl, key 3 _ (by omega) rfl, key 4 _ (by omega) rfl, key 5 _ (by omega) rfl, key 6 _ (by omega) rfl, blk_lt hh, Nat.le_trans hn1 hm1⟩
set_option maxRecDepth 100000 in
set_option maxHeartbeats 2000000 in
theorem vwhole_any (w : World) (b : ByteArray) (depth : Int) (hb : b.size ≤ 900000) (hw : WFrom 0 (mWhole b depth).1) : Calls Try.prog 34 #[.string b, .int .i64 depth] w (VPost w (vWhole b depth)) := by
  have mw := fun W => mwhole_any W b depth hb
  unfold WholePost at mw
  unfold vWhole
  generalize mWhole b depth = r at mw hw ⊢
  obtain ⟨l, er, at_⟩ := r
  simp only at mw hw ⊢
  generalize hz : (match vGo .any l with | some a => ((7 : Int), a) | none => (er, at_)) = z
  have MW := Lib.hid mw
  have HW := Lib.hid hw
  have HZ := Lib.hid hz
  clear mw hw hz
  go_enter Try.func34, Try.ntmps34
  go_wp2_with fail
  refine (MW.out _).mono ?_
  rintro e w1 ⟨v, rfl, hev, hb1⟩
  obtain ⟨A, c, rfl⟩ := own_slice hev
  have HE := Lib.hid hev
  have HB1 := Lib.hid hb1
  clear hev hb1
  go_wp2_with fail
  refine (chknew_any _).mono ?_
  rintro e w2 ⟨rfl, rfl⟩
  go_wp2_with fail
  go_loopw [22] (fun i wr => ∃ k : Nat, i = .int .i64 k ∧ k ≤ l.length ∧ Hid (∃ st rr, ChkIn wr w.heap.size w1.heap.size st rr ∧ WFrom rr (l.drop k) ∧ EvRow wr w.heap.size (.slice A l.length c) l ∧ Below w.heap.size w wr ∧ vGo st (l.drop k) = vGo .any l)) (fun i _ => l.length - (intOf i).toNat)
  case atStart =>
    have bx := (Below.refl w1.heap.size w1).alloc (Nat.le_refl _) (.cells #[.func (.func 67) #[] #[], .bool false] 111)
    exact ⟨0, rfl, Nat.zero_le _, Lib.hid ⟨.any, 0, ⟨_, _, ⟨heap_alloc_new w1 _, HB1.out.size⟩, rfl, trivial⟩, HW.out, own_alloc HE.out _, HB1.out.alloc HB1.out.size _, rfl⟩⟩
  case round =>
    obtain ⟨k, rfl, hk, HR⟩ := hrel
    obtain ⟨st, rr, h1, h2, h3, h4, h5⟩ := HR.out
    have hsz := h4.size
    have hz1 := HB1.out.size
    by_cases hlt : k < l.length
    · have d1 : (k : Int) < (l.length : Int) := by omega
      have hk1 : k + 1 ≤ l.length := hlt
      obtain ⟨g, rfl, c0, c1, c2, c3, c4, c5, c6, hgl, hlm⟩ := ev_at h3 k hlt
      have H1 := Lib.hid h1
      have H3 := Lib.hid h3
      have H4 := Lib.hid h4
      rw [List.drop_eq_getElem_cons hlt] at h2 h5
      generalize hx : l[k]'hlt = x at *
      have H2 := Lib.hid h2
      have H5 := Lib.hid h5
      have HX := Lib.hid hx
      clear h1 h2 h3 h4 h5 HR hx
      go_wp2_with fail
      have bx := (Below.refl wr.heap.size wr).alloc (Nat.le_refl _) (.cells #[.int .i64 x.kind, .int .i64 x.at_, .int .i64 x.h.cl, .int .i64 x.h.tag, .bool x.h.cons, .int .i64 x.h.len, .int .u8 x.b] 67)
      have hci := H1.out.below bx
      have hw2 := H2.out
      refine (chkpush_any _ w.heap.size w1.heap.size st rr x hci (Nat.le_trans hsz bx.size) (fun e => by unfold WFrom at hw2; rw [if_pos e] at hw2; exact ⟨hw2.1, hw2.2.1⟩)).mono ?_
      rintro e w5 ⟨rfl, hk5, v5, hc5, hs5⟩
      have o5 : EvRow w5 w.heap.size (.slice (some ⟨g, 0, none⟩) l.length c) l := hk5.own (own_alloc H3.out _) (by decide)
      have b5 := (H4.out.trans (bx.mono hsz)).trans (hk5.below (Nat.le_trans hsz bx.size))
      have hbx5 := hk5.blk (heap_alloc_new wr (.cells #[.int .i64 x.kind, .int .i64 x.at_, .int .i64 x.h.cl, .int .i64 x.h.tag, .bool x.h.cons, .int .i64 x.h.len, .int .u8 x.b] 67)) (by decide)
      have q1 := blk_cell hbx5 1
      simp only [List.getElem?_toArray, List.getElem?_cons_zero, List.getElem?_cons_succ] at q1
      have O5 := Lib.hid o5
      have B5 := Lib.hid b5
      have HS5 := Lib.hid hs5
      have HC5 := Lib.hid hc5
      have h5 := H5.out
      simp only [vGo] at h5
      have hnx : ∀ st', vLook st x = some st' → ∃ r', CInv st' r' ∧ WFrom r' (l.drop (k + 1)) := by
        intro st' hst
        obtain ⟨F, caps, _, _, hi⟩ := H1.out
        exact vLook_next hst hi hw2
      have HNX := Lib.hid hnx
      cases hq : vLook st x with
      | none =>
        rw [hq] at h5
        have H6 := Lib.hid h5
        clear o5 b5 hs5 hc5 h5 hnx hw2 hci bx hk5 hbx5 hq
        simp only [Option.isSome_none, Bool.false_eq_true, if_false]
        go_wp2_with fail
        go_quiet (fail)
        go_wp2_with fail
        go_ret2
        rw [← HZ.out, ← H6.out]
        exact ⟨rfl, below_drewN B5.out _⟩
      | some st2 =>
        rw [hq] at h5
        have H6 := Lib.hid h5
        obtain ⟨F5, caps5, rfl, hp5⟩ := hs5 st2 hq
        obtain ⟨r', hr1, hr2⟩ := hnx st2 hq
        rw [hq] at hc5
        have HIN := Lib.hid (show ChkIn w5 w.heap.size w1.heap.size st2 r' from ⟨F5, caps5, hc5, hp5, hr1⟩)
        have HR2 := Lib.hid hr2
        clear o5 b5 hs5 hc5 h5 hnx hw2 hci bx hk5 hbx5 hq hr1 hr2 hp5
        simp only [Option.isSome_some, if_true]
        go_wp2_with fail
        go_roundw
        case rel => exact ⟨k + 1, by go_num, hk1, Lib.hid ⟨st2, r', HIN.out, HR2.out, O5.out, B5.out, H6.out⟩⟩
        case measure => simp [intOf]; omega
    · have hke : k = l.length := by omega
      subst hke
      rw [List.drop_of_length_le (Nat.le_refl _)] at h5
      have H4 := Lib.hid h4
      have H5 := Lib.hid h5
      clear h1 h2 h3 h4 h5 HR
      go_wp2_with fail
      go_ret2
      rw [← HZ.out, ← H5.out]
      exact ⟨rfl, H4.out⟩
end Go.Proofs.Ytkabmmpccfeffaa
