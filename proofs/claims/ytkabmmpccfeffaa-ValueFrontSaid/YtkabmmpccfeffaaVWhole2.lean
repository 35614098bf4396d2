/- Layer 9 (event.Whole): by contract. -/
import Derived.Test.YtkabmmpccfeffaaVWhole
import Derived.Outline
import Derived.Deep.LoopGhost
namespace Go.Proofs.Ytkabmmpccfeffaa
open Go.RowKit
set_option linter.unusedVariables false
set_option linter.unusedSimpArgs false

/-- All that bytes bring about, from a state on: events, error, place. -/
def mGo (most : Nat) : List Int → MS → List Ev → Int → List Ev × Int × Int
  | [], s, out, i => (out, if s.done = true then 0 else 2, i)
  | b :: r, s, out, i => if (mPush most s b).1 = 0 then mGo most r (mPush most s b).2.2 (out ++ (mPush most s b).2.1) (i + 1) else (out, (mPush most s b).1, i)
/-- A string's bytes. -/
def bytesOf (b : ByteArray) : List Int := b.data.toList.map fun x => (x.toNat : Int)
def MS.new : MS := ⟨[], 0, [], false, 0⟩
/-- What event.Whole tells. -/
def mWhole (b : ByteArray) (depth : Int) : List Ev × Int × Int := mGo (min (max depth 0) 64).toNat (bytesOf b) MS.new [] 0
def WholePost (w : World) (r : List Ev × Int × Int) (e : Ending) (w' : World) : Prop :=
  ∃ v, e = .returned (.tuple #[v, .int .i64 r.2.1, .int .i64 r.2.2]) ∧ EvRow w' w.heap.size v r.1 ∧ Below w.heap.size w w'
theorem bytesOf_drop (b : ByteArray) (k : Nat) (h : k < b.size) : (bytesOf b).drop k = ((b[k]'h).toNat : Int) :: (bytesOf b).drop (k + 1) := by
  unfold bytesOf
  rw [← List.map_drop, ← List.map_drop, List.drop_eq_getElem_cons (by simpa using h)]
  rfl

theorem IsMS.grown {w w' : World} {B gm most n : Nat} {s : MS} {v : Value} {xs : List Value} {base : Nat} (h : IsMS w B gm most s) (hv : w.ownsRow base 67 7 v n xs) (hg : w.grownBy w' v.ownBlock) : IsMS w' B gm most s := by
  obtain ⟨go, gh, vr, vm, h⟩ := h
  have k6 : Fr (fun k => some k = v.ownBlock) w w' := (Fr.refl _ w).grown hg (fun k _ e => e)
  obtain ⟨cs, hc⟩ := h.stk.blk_
  exact ⟨go, gh, vr, vm, h.keep k6 (own_ne hv h.blk (by decide)) (own_ne hv hc (by decide)) (own_ne hv h.rdr.1 (by decide)) (own_own h.rdr.2.2 hv (by decide)) (own_own h.row hv (by decide))⟩
theorem evCells_one (l : List Ev) : ∀ u ∈ evCells l, u.oneCell' = true := by
  intro u hu
  simp only [evCells, List.mem_flatMap] at hu
  obtain ⟨x, _, hx⟩ := hu
  simp [Ev.cells] at hx
  rcases hx with rfl | rfl | rfl | rfl | rfl | rfl | rfl <;> rfl
theorem evRow_slice {w : World} {B : Nat} {A : Option Addr} {n c : Nat} {l : List Ev} (h : EvRow w B (.slice A n c) l) : n = l.length := by
  rcases h.2 with ⟨h1, h2⟩ | ⟨_, _, _, h1, _⟩
  · injection h1 with _ h1 _; omega
  · injection h1 with _ h1 _
set_option maxRecDepth 100000 in
set_option maxHeartbeats 2000000 in
theorem mwhole_any (w : World) (b : ByteArray) (depth : Int) (hb : b.size ≤ 900000) :
    Calls Try.prog 40 #[.string b, .int .i64 depth] w (WholePost w (mWhole b depth)) := by
  unfold mWhole
  generalize hm : (min (max depth 0) 64).toNat = most
  generalize hz : mGo most (bytesOf b) MS.new [] 0 = z
  have HZ := Lib.hid hz
  have HM := Lib.hid hm
  clear hz hm
  go_enter Try.func40, Try.ntmps40
  go_wp2_with fail
  refine (mnew_any depth _).mono ?_
  rintro e w1 ⟨gm, go, gh, vr, vm, rfl, him, hbl⟩
  rw [HM.out] at him
  have HI := Lib.hid him
  have HBL := Lib.hid hbl
  clear him hbl
  go_wp2_with fail
  go_loopw [8, 16] (fun o i wr => ∃ (k : Nat), i = .int .i64 k ∧ k ≤ b.size ∧ EvRowOpen o ∧ Hid (∃ s evs, IsMS wr w.heap.size gm most s ∧ MInv s ∧ s.at_ = k ∧ EvRow wr w.heap.size o evs ∧ evs.length ≤ 70 * k ∧ Below w.heap.size w wr ∧ mGo most ((bytesOf b).drop k) s evs k = z)) (fun _ i _ => b.size - (intOf i).toNat)
  case atStart => exact ⟨0, rfl, Nat.zero_le _, ⟨_, _, _, rfl⟩, Lib.hid ⟨MS.new, [], ⟨go, gh, vr, vm, HI.out⟩, ⟨Int.le_refl _, by decide, by decide⟩, rfl, World.ownsRow_nil _ _ _ _, by simp, HBL.out, HZ.out⟩⟩
  case round =>
    obtain ⟨k, rfl, hk, ⟨A, n, c, rfl⟩, HR⟩ := hrel
    obtain ⟨s, evs, h1, h2, h3, h4, h5, h6, h7⟩ := HR.out
    obtain rfl := evRow_slice h4
    have hsz : w.heap.size ≤ wr.heap.size := h6.size
    by_cases hlt : k < b.size
    · have d1 : (k : Int) < (b.size : Int) := by omega
      have d0 : (0 : Int) ≤ (k : Int) := by omega
      rw [bytesOf_drop b k hlt] at h7
      have mp := fun n => mpush_any (w := wr.drewN n) (B := w.heap.size) (gm := gm) (most := most) (s := s) (by obtain ⟨a1, a2, a3, a4, h⟩ := h1; exact ⟨a1, a2, a3, a4, h.drewN n⟩) h2 hsz ((b[k]'hlt).toNat : Int) (by omega)
      have pi := mPush_inv most s ((b[k]'hlt).toNat : Int) h2
      have h1l := h1.len
      unfold StepPost at mp
      simp only [mGo] at h7
      generalize mPush most s ((b[k]'hlt).toNat : Int) = r at mp pi h7
      obtain ⟨er, evs1, s1⟩ := r
      simp only at mp pi h7
      have MP := Lib.hid mp
      have PI := Lib.hid pi
      have H4 := Lib.hid h4
      have H6 := Lib.hid h6
      have hl5 : evs.length ≤ 70 * b.size := by omega
      by_cases he : er = 0
      · subst he
        simp only [if_true] at h7
        have H7 := Lib.hid h7
        have H3 := Lib.hid h3
        have H5 := Lib.hid h5
        clear mp pi h7 h1 h2 h3 h4 h5 h6 HR
        go_wp2_with fail
        refine (MP.out 0).mono ?_
        rintro e w5 ⟨hk5, _, hb5⟩
        obtain ⟨v, rfl, hev, hms⟩ := hb5 (by simp)
        obtain ⟨A2, c2, rfl⟩ := own_slice hev
        have o5 : EvRow w5 w.heap.size (.slice A evs.length c) evs := hk5.own (show (wr.drewN 0).ownsRow _ _ _ _ _ _ from H4.out) (by decide)
        have hsz5 : wr.heap.size ≤ w5.heap.size := hk5.size
        have b5 := H6.out.trans (hk5.below hsz)
        have hel : evs1.length ≤ 67 := by have := (PI.out (by simp)).2.2; omega
        have O5 := Lib.hid o5
        have B5 := Lib.hid b5
        have EV5 := Lib.hid hev
        have MS5 := Lib.hid hms
        clear hk5 hb5 hev hms o5 b5
        go_wp2_with (at_builtin; go_loud (refine wpList_app rfl _ _ 59 rfl w.heap.size 67 _ 7 56 Try.underlying59 info_ev rfl (by omega) A evs.length c (evCells evs) rfl O5.out A2 evs1.length c2 (evCells evs1) rfl (Reads.of_own EV5.out) (evCells_one _) (by unfold maxLen; omega) (by omega) (by omega) ?_; intro A3 c3 w6 hown hgr _ _; have HOWN := Lib.hid hown; have HGR := Lib.hid hgr; clear hown hgr))
        go_roundw
        case rel =>
          have p := PI.out (by simp)
          refine ⟨k + 1, by go_num, by omega, ⟨_, _, _, rfl⟩, Lib.hid ⟨s1, evs ++ evs1, MS5.out.grown O5.out HGR.out, p.1, ?_, ?_, ?_, B5.out.grown HGR.out B5.out.size (fun j hj => own_base O5.out j hj), ?_⟩⟩
          · rw [p.2.1, H3.out]; omega
          · rw [EvRow, evCells_append, List.length_append]; exact HOWN.out
          · have := H5.out; simp; omega
          · rw [show ((k + 1 : Nat) : Int) = (k : Int) + 1 by omega]; exact H7.out
        case measure => simp [intOf]; omega
      · simp only [if_neg he] at h7
        have he1 : (er != 0) = true := bne_iff_ne.2 he
        have H7 := Lib.hid h7
        have HE := Lib.hid he
        clear mp pi h7 h1 h2 h3 h4 h5 h6 HR he
        go_wp2_with fail
        refine (MP.out 0).mono ?_
        rintro e w5 ⟨hk5, ha5, _⟩
        obtain ⟨rfl, _⟩ := ha5 HE.out
        have o5 : EvRow w5 w.heap.size (.slice A evs.length c) evs := hk5.own (show (wr.drewN 0).ownsRow _ _ _ _ _ _ from H4.out) (by decide)
        have b5 := H6.out.trans (hk5.below hsz)
        have O5 := Lib.hid o5
        have B5 := Lib.hid b5
        clear hk5 ha5 o5 b5
        go_wp2_with fail
        go_ret3
        rw [← H7.out]
        exact ⟨_, rfl, O5.out, B5.out⟩
    · have hke : k = b.size := by omega
      subst hke
      rw [List.drop_of_length_le (by simp [bytesOf])] at h7
      simp only [mGo] at h7
      have H4 := Lib.hid h4
      have H6 := Lib.hid h6
      have H7 := Lib.hid h7
      obtain ⟨a1, a2, a3, a4, hm⟩ := h1
      have dn := mdone_any hm
      rw [show mDone s.begun s.lefts s.leaf s.came = s.done from rfl] at dn
      cases hd : s.done with
      | true =>
        rw [hd] at dn
        have DN := Lib.hid dn
        have HD := Lib.hid hd
        clear h7 h2 h3 h4 h5 h6 HR hm dn hd
        go_wp2_with fail
        refine DN.out.mono ?_
        rintro e w5 ⟨rfl, n, rfl⟩
        go_wp2_with fail
        go_ret3
        rw [← H7.out, HD.out]
        exact ⟨_, rfl, H4.out, below_drewN H6.out _⟩
      | false =>
        rw [hd] at dn
        have DN := Lib.hid dn
        have HD := Lib.hid hd
        clear h7 h2 h3 h4 h5 h6 HR hm dn hd
        go_wp2_with fail
        refine DN.out.mono ?_
        rintro e w5 ⟨rfl, n, rfl⟩
        go_wp2_with fail
        go_ret3
        rw [← H7.out, HD.out]
        exact ⟨_, rfl, H4.out, below_drewN H6.out _⟩
end Go.Proofs.Ytkabmmpccfeffaa
