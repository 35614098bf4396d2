/- Layer 5 (ident.Get) at place 0: by contract. -/
import Derived.Test.YtkabmmpccfeffaaVBits
import Derived.Laws.Rows
namespace Go.Proofs.Ytkabmmpccfeffaa
open Go.RowKit
set_option linter.unusedVariables false
set_option linter.unusedSimpArgs false

theorem results_cell_tmp2 {P : Program} {fn : Func} {p u v : Tmp} {ty : TypeId} (h : fn.results = #[.cell p ty, .tmp u, .tmp v]) (tmps : Array Value) (w : World) (g : Nat) (t : TypeId) (cs : Array Value) (fr : Nat × Nat) (d : TypeDesc)
    (hp : tmps.getD p undef = .pointer (some ⟨g, 0, none⟩)) (hg : w.heap[g]? = some (.cells cs t fr))
    (hu : P.underlying ty = some d) (hd : (match d with | .struct _ | .array _ _ => true | _ => false) = true) (hi : (P.info? ty).map (·.size) = some cs.size) :
    (results fn tmps).run P w = .ok (.tuple #[.agg cs, tmps.getD u undef, tmps.getD v undef]) w := by
  have hp' : tmps[p]?.getD undef = .pointer (some ⟨g, 0, none⟩) := by simpa using hp
  simp [results, h, hp', asAddr, run_loadVar_row w g t ty cs fr d hg hu hd hi]
theorem info_head : (Try.prog.info? 65).map (·.size) = some 4 := by kernel_rfl

/-- A head, as a value. -/
def hd (cl tag : Int) (cons : Bool) (len : Int) : Value := .agg #[.int .i64 cl, .int .i64 tag, .bool cons, .int .i64 len]

set_option maxRecDepth 100000 in
set_option maxHeartbeats 400000 in
theorem ident_empty (w : World) (b : ByteArray) (h : b.size = 0) :
    Calls Try.prog 190 #[.string b, .int .i64 0] w fun e w' => e = .returned (.tuple #[hd 0 0 false 0, .int .i64 0, .int .i64 2]) ∧ Below w.heap.size w w' := by
  have h1 : ((0 : Int) == (b.size : Int)) = true := by simp; omega
  have h2 : decide ((b.size : Int) < 0) = false := by simp
  clear h
  go_enter Try.func190, Try.ntmps190
  go_wp2_with fail
  exact bodyPost_ret (results_cell_tmp2 rfl _ _ _ _ _ _ _ rfl (heap_alloc_new w _) Try.underlying65 rfl info_head) rfl ⟨rfl, (Below.refl _ _).alloc (Nat.le_refl _) _⟩

/-- The tag's further bytes, from place i on, n at most (ident.Get's loop at place 0): tag so far; what it tells: error, place, tag. -/
def idGo (b : ByteArray) : Nat → Nat → Int → Int × Int × Int
  | 0, i, _ => (2, b.size, 0)
  | n + 1, i, tag =>
    if i < b.size then
      if i = 1 ∧ bt b i = 128 then (3, i, 0)
      else
        let tag' := tag * 128 + bt b i % 128
        if 268435455 < tag' then (3, i, 0)
        else if 128 ≤ bt b i then idGo b n (i + 1) tag'
        else if tag' < 31 then (3, i, 0)
        else (0, i + 1, tag')
    else (2, b.size, 0)

set_option maxRecDepth 100000 in
set_option maxHeartbeats 400000 in
theorem ident_low (w : World) (b : ByteArray) (h : 0 < b.size) (hl : bt b 0 % 32 < 31) :
    Calls Try.prog 190 #[.string b, .int .i64 0] w fun e w' => e = .returned (.tuple #[hd (bt b 0 / 64) (bt b 0 % 32) (decide (bt b 0 / 32 % 2 = 1)) 0, .int .i64 1, .int .i64 0]) ∧ Below w.heap.size w w' := by
  have h1 : ((0 : Int) == (b.size : Int)) = false := by simp; omega
  have h2 : decide ((b.size : Int) < 0) = false := by simp
  have h3 : (0 : Int) < (b.size : Int) := by omega
  have hx : (b[0]'h).toNat < 256 := UInt8.toNat_lt _
  have hbt : ((b[0]'h).toNat : Int) = bt b 0 := bt_nat b 0 h
  have c1 : wrap64 (((b[0]'h).toNat : Int) / 64) = ((b[0]'h).toNat : Int) / 64 := by unfold wrap64; omega
  have c2 : wrap64 (bits .and .u8 ((b[0]'h).toNat : Int) 31) = ((b[0]'h).toNat : Int) % 32 := (congrArg wrap64 (and31 _ hx)).trans (by unfold wrap64; omega)
  have c3 : (bits .and .u8 ((b[0]'h).toNat : Int) 32 != 0) = decide (((b[0]'h).toNat : Int) / 32 % 2 = 1) := and32 _ hx
  have c4 : ((b[0]'h).toNat : Int) % 32 < 31 := by rw [hbt]; exact hl
  have HBT := Lib.hid hbt
  clear hbt hl
  go_enter Try.func190, Try.ntmps190
  go_wp2_with fail
  go_region
  go_wp2_with fail
  refine bodyPost_ret (results_cell_tmp2 rfl _ _ _ _ _ _ _ rfl (heap_alloc2_old w _ _) Try.underlying65 rfl info_head) rfl ⟨?_, ((((Below.refl _ _).alloc (Nat.le_refl _) _).alloc (by simp) _)).drew⟩
  rw [← HBT.out]
  rfl

end Go.Proofs.Ytkabmmpccfeffaa
