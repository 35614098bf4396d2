/- THE STAGE'S THEOREM of layer 16 (OrderPlays): in every order of calls the program's Sorter tells what the document's does; for every number of bytes, and every list of calls. Conditions: none. -/
import Derived.Test.YtkabmmpccfeffaaRows
import Derived.Test.YtkabmmpccfeffaaPlays
import Derived.WalkKit
import Derived.ProofKit
import Derived.OpenShut
import Derived.ChangeOld
import Derived.Below
import Derived.SizedLaws
import Derived.Deep.Slices
namespace Go.Proofs.Ytkabmmpccfeffaa.orderPlays
open Go.ChangeShapes Go.WideShapes Go.ChangeAt Go.RowKit Go.Deep
set_option linter.unusedVariables false
theorem own : ownKnob Try.prog.godebug = none := by kernel_rfl
theorem laidOut : laidOutB Try.prog = true := by kernel_rfl
theorem cells_act : Try.prog.cellsOf 29 = 2 := by kernel_rfl
theorem fields_act : ∃ f0 f1 : Field, Try.prog.underlying 29 = some (.struct #[f0, f1]) ∧ f0.offset = 0 ∧ f0.type = 3 ∧ f1.offset = 1 ∧ f1.type = 5 :=
  ⟨_, _, Try.underlying29, rfl, rfl, rfl, rfl⟩
theorem cells_int : Try.prog.cellsOf 3 = 1 := by kernel_rfl
theorem cells_u8 : Try.prog.cellsOf 5 = 1 := by kernel_rfl

set_option maxRecDepth 100000 in
/-- An Act's two cells. -/
theorem open_act {H : Type} {enc : TypeId × Value → H} {w : World} {base : Nat} {spare : Nat → Bool} {held : Bool} {fuel : Nat} {cs : List Value} {x : DataW H × List MemPlace}
    (h : DataW.trod enc Try.prog w base spare held fuel 29 cs = some x) : ∃ k b : Int, cs = [.int .i64 k, .int .u8 b] := by
  obtain ⟨f0, f1, hu, o0, t0, o1, t1⟩ := fields_act
  obtain ⟨xs, n, _, _, hl, hxs, hf⟩ := DataW.trod_struct hu h
  rw [cells_act] at hl
  match cs, hl with
  | [c0, c1], _ =>
    have h0 := hf 0 f0 rfl
    have h1 := hf 1 f1 rfl
    rw [o0, t0, cells_int] at h0
    rw [o1, t1, cells_u8] at h1
    have hx0 : ∃ y, xs[0]? = some y := ⟨_, List.getElem?_eq_getElem (by rw [hxs]; simp)⟩
    have hx1 : ∃ y, xs[1]? = some y := ⟨_, List.getElem?_eq_getElem (by rw [hxs]; simp)⟩
    obtain ⟨y0, e0⟩ := hx0
    obtain ⟨y1, e1⟩ := hx1
    obtain ⟨k, hk, _⟩ := DataW.trod_int Try.underlying3 (h0.trans e0)
    obtain ⟨b, hb, _⟩ := DataW.trod_int Try.underlying5 (h1.trans e1)
    simp at hk hb
    subst hk; subst hb
    exact ⟨k, b, rfl⟩

theorem acts {H : Type} {enc : TypeId × Value → H} {w : World} {base : Nat} {spare : Nat → Bool} {held : Bool} {A : Option Addr} {len cap : Nat} {d : DataW H} {ps : List MemPlace}
    (h : DataW.Trod enc Try.prog w base spare held 22 (.slice A len cap) d ps) :
    ∃ kd bv : Nat → Int, ∀ i, i < len → ∃ ad, A = some ad ∧ w.cell? (ad.add (i * 2)) = some (.int .i64 (kd i)) ∧ w.cell? ⟨(ad.add (i * 2)).block, (ad.add (i * 2)).off + 1, none⟩ = some (.int .u8 (bv i)) := by
  obtain ⟨fuel, hf⟩ := h
  rcases open_slice Try.underlying22 hf with ⟨hcs, _⟩ | ⟨a, l, c, m, n, D, Pl, hcs, hb, hl, hm, hmm, _, hx⟩
  · simp [Value.cells] at hcs
    obtain ⟨rfl, rfl, rfl⟩ := hcs
    exact ⟨fun _ => 0, fun _ => 0, fun i hi => by omega⟩
  · simp [Value.cells] at hcs
    obtain ⟨rfl, rfl, rfl⟩ := hcs
    rw [cells_act] at hx
    have key : ∀ i, i < len → ∃ q : Int × Int, w.cell? (a.add (i * 2)) = some (.int .i64 q.1) ∧ w.cell? ⟨(a.add (i * 2)).block, (a.add (i * 2)).off + 1, none⟩ = some (.int .u8 q.2) := by
      intro i hi
      obtain ⟨cs, hcs, ht⟩ := hx i (by rw [hmm]; split <;> omega)
      obtain ⟨k, b, rfl⟩ := open_act ht
      obtain ⟨_, _, hc⟩ := World.cells?_some hcs
      refine ⟨(k, b), ?_, ?_⟩
      · have := hc 0 (by omega)
        simpa [Addr.add] using this
      · have := hc 1 (by omega)
        simpa [Addr.add] using this
    obtain ⟨f, hf⟩ := choose_lt key
    exact ⟨fun i => (f i).1, fun i => (f i).2, fun i hi => ⟨a, rfl, hf i hi⟩⟩

set_option maxRecDepth 100000 in
theorem lifted (os : Os) (started : os.Started) (H : Type) (enc : TypeId × Value → H) :
    ReturnsInHanded {} Try.checked os 3 .any (Rows.orderPlaysSpec.pre6 enc Try.prog Try.f3 Rows.orderPlaysRow.domain false) (Rows.orderPlaysSpec.post enc Try.prog Try.f3 false true false false) := by
  refine returnsInHanded_of_change_sized (C := Try.checked) own started (by kernel_rfl) Try.func3
    (ChangeSpec.witness6 (enc := enc) (C := Try.checked) false ⟨#[], #[.int .i64 0, .slice none 0 0], []⟩ 8 (by kernel_rfl) (by kernel_rfl) (by kernel_rfl) (by kernel_rfl)) ?_
  intro W base args ds gs before hval0 hW hcnd hsz0 _
  have hval : ∀ (j : Nat) t v, Try.f3.params[j]? = some t → args[j]? = some v → Value.okWide Try.prog W .any base t v := hval0
  have hW' := hW
  obtain ⟨p, q, hA0, hV, rfl, hfz, hnd⟩ := hW
  have hA : DataW.TrodAll enc Try.prog W 0 (fun _ => true) true Try.f3.params.toList args.toList ds p := hA0
  rw [Try.params3] at hA hval
  obtain ⟨v0, vs0, d0, ds0, p0, q0, hargs, rfl, rfl, h0, r0⟩ := trodAll_cons hA
  obtain ⟨v1, vs1, d1, ds1, p1, q1, rfl, rfl, rfl, h1, r1⟩ := trodAll_cons r0
  obtain ⟨rfl, rfl, rfl⟩ := trodAll_nil r1
  obtain rfl : args = #[v0, v1] := by cases args; simp_all
  obtain ⟨rfl, rfl⟩ := trodVars_none hV
  obtain ⟨a0, rfl, rfl, rfl, w0⟩ := open_int Try.underlying3 (hval 0 3 v0 rfl rfl) h0
  obtain ⟨a1, len1, cap1, rfl⟩ := okWide_slice Try.underlying22 (hval 1 22 v1 rfl rfl)
  have k1 := h1
  have lt1 : ∀ x ∈ p1, x.block < W.heap.size := by obtain ⟨m, hm⟩ := k1; exact DataW.trod_lt m _ _ _ hm
  obtain ⟨kd, bv, hacts⟩ := acts k1
  clear hA0 hval0 hsz0
  refine (orderPlays_any a0 a1 len1 cap1 kd bv W hacts).mono fun e W' ⟨he, bel⟩ => ?_
  subst he
  exact ⟨_, rfl, _, _, _, [], _, [], hW', trodAll_mk1 (shut_bool Try.underlying4 _), trodAll_cons_mk (shut_int Try.underlying3 w0) (trodAll_cons_mk (Below.trod laidOut (by kernel_rfl) (of_decide_eq_true (by kernel_rfl)) k1 bel lt1) trodAll_mk0), rfl, bel.frame _, fun h => by cases h⟩
theorem over : Rows.orderPlaysRow.holds Try.pinned (OpenSpec.ofChange Rows.orderPlaysSpec) :=
  OpenClaim.holds_of_wide 3 Try.f3 rfl rfl rfl rfl rfl rfl rfl ⟨rfl, rfl, rfl, rfl, rfl⟩ rfl rfl rfl rfl rfl (by kernel_rfl) Try.func3 (by kernel_rfl)
    (of_decide_eq_true (by kernel_rfl)) (by unfold Func.isWrapper; first | (rw [if_pos (by decide +kernel)]; kernel_rfl) | (rw [if_neg (by decide +kernel)]; exact ⟨rfl, rfl⟩))
    (fun os started H enc _ => lifted os started H enc)
theorem proved : Rows.OrderPlaysSaid := over
#print axioms proved
end Go.Proofs.Ytkabmmpccfeffaa.orderPlays
namespace Go.Proofs.Ytkabmmpccfeffaa
/-- The statement, under a short name, for the claim. -/
theorem orderPlays_holds : Rows.OrderPlaysSaid := orderPlays.proved
end Go.Proofs.Ytkabmmpccfeffaa
