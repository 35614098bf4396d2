/- Layer 15 (value.Checker): by contracts. -/
import Derived.Test.YtkabmmpccfeffaaVStart2
import Derived.Laws.EntriesVeiled
import Derived.Deep.RegionWith
namespace Go.Proofs.Ytkabmmpccfeffaa
open Go.RowKit
set_option linter.unusedVariables false
set_option linter.unusedSimpArgs false
/-- A Checker's block. -/
def IsChk (w : World) (B g : Nat) (v : Value) (over : Bool) : Prop := w.heap[g]? = some (.cells #[v, .bool over] 111 (0, 0)) ∧ B ≤ g
def evArg (x : Ev) : Value := .agg #[.int .i64 x.kind, .int .i64 x.at_, .int .i64 x.h.cl, .int .i64 x.h.tag, .bool x.h.cons, .int .i64 x.h.len, .int .u8 x.b]
/-- Whether an event can be, and the content's state behind it. -/
def vLook (st : CSt) (x : Ev) : Option CSt :=
  if x.kind = 3 then cPush st x.b
  else if x.kind = 1 ∧ x.h.cl = 0 then (if x.h.tag = 16 ∨ x.h.tag = 17 then some st else none)
  else if x.kind = 2 ∧ x.h.cl = 0 then cStart x.h.tag x.h.len
  else if x.kind = 2 then some .any
  else some st
set_option maxRecDepth 100000 in
set_option maxHeartbeats 1000000 in
theorem chknew_any (w : World) : Calls Try.prog 36 #[] w fun e w' => e = .returned (.pointer (some ⟨w.heap.size, 0, none⟩)) ∧ w' = w.alloc (.cells #[.func (.func 67) #[] #[], .bool false] 111) := by
  go_enter Try.func36, Try.ntmps36
  go_wp2_with fail
  go_ret
  exact ⟨rfl, rfl⟩
/-- What a call of a content's function value tells. -/
def Takes (w : World) (F : FuncId) (caps : Array Value) (b : Int) (r : Option CSt) : Prop := ∀ W, Below w.heap.size w W → Calls Try.prog F (#[Value.int .u8 b] ++ caps) W (PuPost W r)
/-- The outcome of a look at an event. -/
def LookPost (w : World) (B g : Nat) (r : Option CSt) (e : Ending) (w' : World) : Prop :=
  e = .returned (.bool r.isSome) ∧ Kp B [111] w w' ∧ ∃ v, IsChk w' B g v false ∧ (∀ st, r = some st → ∃ (F : FuncId) (caps : Array Value), v = .func (.func F) #[] caps ∧ IsPush w' v st)
theorem enter_of {P : Program} {F : FuncId} {fn : Func} (hf : P.funcs[F]? = some fn) (hn : (fn.name == "runtime.NumGoroutine") = false) (hb : fn.body.isNone = false) (args : Array Value) (W : World) : (callFunc F args).run P W = .ok (.enter F args) W := by
  have h1 : ¬ fn.name = "runtime.NumGoroutine" := by simpa using hn
  have h2 : ¬ fn.body = none := by intro h; rw [h] at hb; cases hb
  simp [callFunc, hf, h1, h2]
theorem chk_not {t : TypeId} (ht : t ∈ stTypes) : t ∉ [111] := by
  simp only [stTypes, List.mem_cons, List.not_mem_nil, or_false] at ht
  rcases ht with rfl | rfl | rfl | rfl | rfl <;> decide
set_option maxRecDepth 100000 in
set_option maxHeartbeats 2000000 in
theorem look_byte (w : World) (B g : Nat) (F : FuncId) (caps : Array Value) (x : Ev) (r : Option CSt) (h : IsChk w B g (.func (.func F) #[] caps) false) (hB : B ≤ w.heap.size) (hv : Takes w F caps x.b r) (hen : ∀ (args : Array Value) (W : World), (callFunc F args).run Try.prog W = .ok (.enter F args) W) (hk : x.kind = 3) :
    Calls Try.prog 70 #[.pointer (some ⟨g, 0, none⟩), evArg x] w (LookPost w B g r) := by
  obtain ⟨hb, hg⟩ := h
  have h0 := blk_cell hb 0
  have z0 := blk_frozen hb 0
  simp only [List.getElem?_toArray, List.getElem?_cons_zero, List.getElem?_cons_succ] at h0
  have hgl := blk_lt hb
  have k1 : (x.kind == 3) = true := by rw [hk]; rfl
  have HB := Lib.hid hb
  have HV := Lib.hid hv
  unfold evArg
  clear hb hk hv
  have bx := ((Below.refl w.heap.size w).alloc (Nat.le_refl _) (.cells #[.int .i64 x.kind, .int .i64 x.at_, .int .i64 x.h.cl, .int .i64 x.h.tag, .bool x.h.cons, .int .i64 x.h.len, .int .u8 x.b] 67)).drew
  have ct := HV.out _ bx
  have CT := Lib.hid ct
  have kp0 := Kp.of_below (B := B) (ts := [111]) bx hB
  have KP0 := Lib.hid kp0
  have hgb := bx.block g hgl
  have HGB := Lib.hid (hgb.trans HB.out)
  have hsz := bx.size
  have hgs : g < (w.alloc (.cells #[.int .i64 x.kind, .int .i64 x.at_, .int .i64 x.h.cl, .int .i64 x.h.tag, .bool x.h.cons, .int .i64 x.h.len, .int .u8 x.b] 67)).drew.heap.size := by omega
  clear ct bx kp0 hgb
  cases r with
  | none =>
    go_enter Try.func70, Try.ntmps70
    go_wp2_with fail
    go_region_with ((with_reducible refine CT.out.mono ?_); rintro e w1 ⟨ha, _, hb1⟩; obtain rfl := ha rfl; have hb2 := (hb1.block g hgs).trans HGB.out; have f0 := blk_cell hb2 0; have z1 := blk_frozen hb2 0; simp only [List.getElem?_toArray, List.getElem?_cons_zero, List.getElem?_cons_succ] at f0; have HB2 := Lib.hid hb2; have HB1 := Lib.hid hb1; clear ha hb1 hb2)
    all_goals
      go_wp2_with fail
      go_ret
      have k := KP0.out.trans (Kp.of_below (ts := [111]) HB1.out (Nat.le_trans hB (by omega)))
      exact ⟨rfl, k.setCell HB2.out hg (.inl (by simp)), _, ⟨blk_set HB2.out 0 _, hg⟩, (fun st h => by cases h)⟩
  | some st =>
    go_enter Try.func70, Try.ntmps70
    go_wp2_with fail
    go_region_with ((with_reducible refine CT.out.mono ?_); rintro e w1 ⟨_, ha, hb1⟩; obtain ⟨F', caps', rfl, hv'⟩ := ha _ rfl; have hb2 := (hb1.block g hgs).trans HGB.out; have f0 := blk_cell hb2 0; have z1 := blk_frozen hb2 0; simp only [List.getElem?_toArray, List.getElem?_cons_zero, List.getElem?_cons_succ] at f0; have HB2 := Lib.hid hb2; have HB1 := Lib.hid hb1; have HV' := Lib.hid hv'; clear ha hb1 hb2 hv')
    all_goals
      go_wp2_with fail
      go_ret
      have k := KP0.out.trans (Kp.of_below (ts := [111]) HB1.out (Nat.le_trans hB (by omega)))
      have k2 := (Kp.refl B [111] w1).setCell (i := 0) (u := .func (.func F') #[] caps') HB2.out hg (.inl (by simp))
      refine ⟨rfl, k.setCell HB2.out hg (.inl (by simp)), _, ⟨blk_set HB2.out 0 _, hg⟩, fun st' h => ?_⟩
      injection h with h
      subst h
      exact ⟨F', caps', rfl, HV'.out.kp k2 (fun t ht => chk_not ht)⟩
end Go.Proofs.Ytkabmmpccfeffaa
