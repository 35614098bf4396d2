/- Layer 9 (event.Machine): content. -/
import Derived.Test.YtkabmmpccfeffaaVBegin
namespace Go.Proofs.Ytkabmmpccfeffaa
open Go.RowKit
set_option linter.unusedVariables false
set_option linter.unusedSimpArgs false

/-- The events of a byte of a leaf's content. -/
def mByte (leaf at_ b : Int) : List Ev := ⟨3, at_, Hd.zero, b⟩ :: (if leaf - 1 = 0 then [⟨4, at_, Hd.zero, 0⟩] else [])
def ContPost (w : World) (B gm go gh : Nat) (vr vm : Value) (most : Nat) (lefts : List Int) (leaf : Int) (cm cr : List Int) (begun : Bool) (at_ b : Int) (e : Ending) (w' : World) : Prop :=
  Kp B mT w w' ∧ ∃ v, e = .returned v ∧ EvRow w' w.heap.size v (mByte leaf at_ b) ∧ IsM w' B gm go gh vr vm most (stTake lefts).2 (leaf - 1) cm cr begun at_
section
variable {w : World} {B gm go gh : Nat} {vr vm : Value} {most : Nat} {lefts : List Int} {leaf : Int} {cm cr : List Int} {begun : Bool} {at_ : Int}
set_option maxRecDepth 100000 in
set_option maxHeartbeats 2000000 in
theorem mcontent_any (h : IsM w B gm go gh vr vm most lefts leaf cm cr begun at_) (hB : B ≤ w.heap.size) (b : Int) (h0l : 0 < leaf) (h1l : leaf ≤ 2305843009213693951) :
    Calls Try.prog 149 #[.pointer (some ⟨gm, 0, none⟩), .int .u8 b] w (ContPost w B gm go gh vr vm most lefts leaf cm cr begun at_ b) := by
  have h0 := blk_cell h.blk 0
  have hgl := h.lt.1
  simp only [List.getElem?_toArray, List.getElem?_cons_zero, List.getElem?_cons_succ] at h0
  have STK := Lib.hid (stake_any h.stk)
  have HH := Lib.hid h
  clear h
  by_cases hn : leaf = 1
  · subst hn
    go_enter Try.func149, Try.ntmps149
    go_wp2_with fail
    refine STK.out.mono ?_
    rintro e w2 ⟨rfl, hs2, fr2⟩
    have im2 := HH.out.stack fr2 hs2
    have fr2' : Fr (fun k => k = gm ∨ k = go ∨ k = gh ∨ some k = vr.ownBlock ∨ some k = vm.ownBlock) w w2 := fr2.mono (fun i _ e => .inr (.inl e))
    clear h0
    have f3 := blk_cell im2.blk 3
    have z3 := blk_frozen im2.blk 3
    have f4 := blk_cell im2.blk 4
    have hg2 := im2.lt.1
    simp only [List.getElem?_toArray, List.getElem?_cons_zero, List.getElem?_cons_succ] at f3 f4
    have IM2 := Lib.hid im2
    have FR2 := Lib.hid fr2'
    have hsz := fr2'.size
    clear im2 fr2 fr2' hs2
    go_wp2_with (at_builtin; go_loud (refine wpList_app rfl _ _ 59 rfl w.heap.size 67 _ 7 56 Try.underlying59 info_ev rfl (by omega) _ 1 1 (evCells [⟨3, at_, Hd.zero, b⟩]) rfl (own_alloc (evRow_one (x := ⟨3, at_, Hd.zero, b⟩) (heap_new (w := w2.setCell ⟨gm, 3, none⟩ (.int .i64 0)) (k := w2.heap.size) (by simp [World.setCell])) (by omega)) _) _ 1 1 (Ev.cells ⟨4, at_, Hd.zero, 0⟩) rfl (reads_lit (heap_new (by simp)) rfl) (by simp [Ev.cells, Value.oneCell']) (by unfold maxLen; omega) (by omega) (by first | omega | (simp; omega)) ?_; intro A3 c3 w3 hown hgr _ hat; have HOWN := Lib.hid hown; have HGR := Lib.hid hgr; clear hown hgr hat))
    go_ret
    have im3 := IM2.out.leaf_ 0
    have gr : (((w2.setCell ⟨gm, 3, none⟩ (.int .i64 0)).alloc (.cells #[.int .i64 3, .int .i64 at_, .int .i64 0, .int .i64 0, .bool false, .int .i64 0, .int .u8 b] 67)).alloc (.cells #[.int .i64 4, .int .i64 at_, .int .i64 0, .int .i64 0, .bool false, .int .i64 0, .int .u8 0] 67)).grownBy w3 (some w2.heap.size) := by
      first | exact HGR.out | exact grown_un1 HGR.out | (have h := HGR.out; simpa [Value.ownBlock] using h)
    have f0 := FR2.out.setCell (p := ⟨gm, 3, none⟩) (fun _ => .inl rfl) (.int .i64 0)
    have f1 := ((f0.alloc _).alloc _).grown gr (fun k hk e => by injection e with e; omega)
    have f2 := (((Fr.refl (fun _ => False) (w2.setCell ⟨gm, 3, none⟩ (.int .i64 0))).alloc _).alloc _).grown gr (fun k hk e => by injection e with e; simp [World.setCell] at hk; omega)
    have im := im3.keep f2 (fun h => h) (fun h => h) (fun h => h) (fun _ _ h => h) (fun _ _ h => h)
    exact ⟨HH.out.kp f1 (fun i _ h => h), _, rfl, HOWN.out, im⟩
  · have hn1 : (leaf - 1 == 0) = false := beq_eq_false_iff_ne.2 (by omega)
    have HN := Lib.hid (show ¬ leaf - 1 = 0 by omega)
    clear hn
    go_enter Try.func149, Try.ntmps149
    go_wp2_with fail
    refine STK.out.mono ?_
    rintro e w2 ⟨rfl, hs2, fr2⟩
    have im2 := HH.out.stack fr2 hs2
    have fr2' : Fr (fun k => k = gm ∨ k = go ∨ k = gh ∨ some k = vr.ownBlock ∨ some k = vm.ownBlock) w w2 := fr2.mono (fun i _ e => .inr (.inl e))
    clear h0
    have f3 := blk_cell im2.blk 3
    have z3 := blk_frozen im2.blk 3
    have f4 := blk_cell im2.blk 4
    have hg2 := im2.lt.1
    simp only [List.getElem?_toArray, List.getElem?_cons_zero, List.getElem?_cons_succ] at f3 f4
    have IM2 := Lib.hid im2
    have FR2 := Lib.hid fr2'
    have hsz := fr2'.size
    clear im2 fr2 fr2' hs2
    go_wp2_with fail
    go_ret
    have im3 := IM2.out.leaf_ (leaf - 1)
    have f0 := FR2.out.setCell (p := ⟨gm, 3, none⟩) (fun _ => .inl rfl) (.int .i64 (leaf - 1))
    refine ⟨HH.out.kp (f0.alloc _) (fun i _ h => h), _, rfl, ?_, im3.below ((Below.refl _ _).alloc (Nat.le_refl _) _)⟩
    have e1 : mByte leaf at_ b = [⟨3, at_, Hd.zero, b⟩] := by unfold mByte; rw [if_neg HN.out]
    rw [e1]
    exact evRow_one (x := ⟨3, at_, Hd.zero, b⟩) (heap_new (w := w2.setCell ⟨gm, 3, none⟩ (.int .i64 (leaf - 1))) (k := w2.heap.size) (by simp [World.setCell])) (by omega)
end
end Go.Proofs.Ytkabmmpccfeffaa
