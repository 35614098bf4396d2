/- Layer 15 (value): a content's state as a function value; start, anything. -/
import Derived.Test.YtkabmmpccfeffaaVClo
namespace Go.Proofs.Ytkabmmpccfeffaa
open Go.RowKit
set_option linter.unusedVariables false
set_option linter.unusedSimpArgs false
/-- A content's state. -/
inductive CSt where
  | any : CSt
  | num (tag n at_ first : Int) : CSt
  | oid (left : Int) (within : Bool) : CSt
  | bit (left : Int) (begun : Bool) (unused : Int) : CSt
  | whn (date : ByteArray) (left : Int) (utc : Bool) : CSt
  | txt (tag left more low high : Int) : CSt
def decNum (cs : Array Value) : CSt := match cs.toList with
  | [.int _ a, .int _ b, .int _ c, .int _ d] => .num a b c d
  | _ => .any
def decOid (cs : Array Value) : CSt := match cs.toList with
  | [.int _ a, .bool b] => .oid a b
  | _ => .any
def decBit (cs : Array Value) : CSt := match cs.toList with
  | [.int _ a, .bool b, .int _ c] => .bit a b c
  | _ => .any
def decWhn (cs : Array Value) : CSt := match cs.toList with
  | [.string a, .int _ b, .bool c] => .whn a b c
  | _ => .any
def decTxt (cs : Array Value) : CSt := match cs.toList with
  | [.int _ a, .int _ b, .int _ c, .int _ d, .int _ e] => .txt a b c d e
  | _ => .any
/-- A content's next byte. -/
def cPush : CSt → Int → Option CSt
  | .any, _ => some .any
  | .num tag n at_ first, b => (numPush tag n at_ first b).map decNum
  | .oid left within, b => (oidPush left within b).map decOid
  | .bit left begun unused, b => (bitPush left begun unused b).map decBit
  | .whn date left utc, b => (whnPush date left utc b).map decWhn
  | .txt tag left more low high, b => (txtPush tag left more low high b).map decTxt
/-- What holds of a content's state of which so many bytes are still to come. -/
def CInv : CSt → Int → Prop
  | .any, _ => True
  | .num _ _ at_ _, r => 0 ≤ at_ ∧ at_ + r ≤ 2305843009213693951
  | .oid left _, r => left = r
  | .bit left _ unused, r => left = r ∧ 0 ≤ unused ∧ unused ≤ 7
  | .whn date left utc, r => left = r ∧ (0 < r → AllDig date ∧ ((date.size : Int) + left = 15 ∧ (utc = true → 0 < date.size) ∨ utc = true ∧ date.size = 0 ∧ left = 13))
  | .txt _ left more _ _, r => left = r ∧ 0 ≤ more ∧ more ≤ 3
/-- A function value that takes a content's next byte. -/
def IsPush (w : World) (v : Value) : CSt → Prop
  | .any => v = .func (.func 67) #[] #[]
  | .num tag n at_ first => ∃ g, v = .func (.func 172) #[] #[.pointer (some ⟨g, 0, none⟩)] ∧ w.heap[g]? = some (.cells (numC tag n at_ first) 203 (0, 0))
  | .oid left within => ∃ g, v = .func (.func 173) #[] #[.pointer (some ⟨g, 0, none⟩)] ∧ w.heap[g]? = some (.cells (oidC left within) 208 (0, 0))
  | .bit left begun unused => ∃ g, v = .func (.func 174) #[] #[.pointer (some ⟨g, 0, none⟩)] ∧ w.heap[g]? = some (.cells (bitC left begun unused) 183 (0, 0))
  | .whn date left utc => ∃ g, v = .func (.func 175) #[] #[.pointer (some ⟨g, 0, none⟩)] ∧ w.heap[g]? = some (.cells (whnC date left utc) 214 (0, 0))
  | .txt tag left more low high => ∃ g, v = .func (.func 176) #[] #[.pointer (some ⟨g, 0, none⟩)] ∧ w.heap[g]? = some (.cells (txtC tag left more low high) 219 (0, 0))
def stTypes : List TypeId := [203, 208, 183, 214, 219]
theorem IsPush.kp {w w' : World} {v : Value} {st : CSt} {B : Nat} {ts : List TypeId} (h : IsPush w v st) (k : Kp B ts w w') (ht : ∀ t ∈ stTypes, t ∉ ts) : IsPush w' v st := by
  cases st with
  | any => exact h
  | num tag n at_ first => obtain ⟨g, rfl, hb⟩ := h; exact ⟨g, rfl, k.blk hb (ht _ (by simp [stTypes]))⟩
  | oid left within => obtain ⟨g, rfl, hb⟩ := h; exact ⟨g, rfl, k.blk hb (ht _ (by simp [stTypes]))⟩
  | bit left begun unused => obtain ⟨g, rfl, hb⟩ := h; exact ⟨g, rfl, k.blk hb (ht _ (by simp [stTypes]))⟩
  | whn date left utc => obtain ⟨g, rfl, hb⟩ := h; exact ⟨g, rfl, k.blk hb (ht _ (by simp [stTypes]))⟩
  | txt tag left more low high => obtain ⟨g, rfl, hb⟩ := h; exact ⟨g, rfl, k.blk hb (ht _ (by simp [stTypes]))⟩
theorem IsPush.below {w w' : World} {v : Value} {st : CSt} (h : IsPush w v st) (k : Below w.heap.size w w') : IsPush w' v st := h.kp (Kp.of_below (B := 0) (ts := []) k (Nat.zero_le _)) (fun _ _ h => by cases h)
/-- The outcome of a content's start or next byte. -/
def PuPost (w : World) (r : Option CSt) (e : Ending) (w' : World) : Prop :=
  (r = none → e = .returned (.tuple #[Value.nilFunc, .bool false])) ∧ (∀ st, r = some st → ∃ (F : FuncId) (caps : Array Value), e = .returned (.tuple #[.func (.func F) #[] caps, .bool true]) ∧ IsPush w' (.func (.func F) #[] caps) st) ∧ Below w.heap.size w w'
theorem pu_num {w : World} {r : Option (Array Value)} {e : Ending} {w' : World} (h : CloPost w 203 172 r e w') (hr : r = none ∨ ∃ y0 y1 y2 y3, r = some (numC y0 y1 y2 y3)) : PuPost w (r.map decNum) e w' := by
  refine ⟨fun h2 => h.1 (by cases r <;> simp_all), fun st hst => ?_, h.2.2⟩
  rcases hr with rfl | ⟨y0, y1, y2, y3, rfl⟩
  · cases hst
  · obtain ⟨g, rfl, hg, _⟩ := h.2.1 _ rfl
    have : st = .num y0 y1 y2 y3 := by simpa [decNum, numC] using hst.symm
    subst this
    exact ⟨_, _, rfl, g, rfl, hg⟩
theorem pu_oid {w : World} {r : Option (Array Value)} {e : Ending} {w' : World} (h : CloPost w 208 173 r e w') (hr : r = none ∨ ∃ y0 y1, r = some (oidC y0 y1)) : PuPost w (r.map decOid) e w' := by
  refine ⟨fun h2 => h.1 (by cases r <;> simp_all), fun st hst => ?_, h.2.2⟩
  rcases hr with rfl | ⟨y0, y1, rfl⟩
  · cases hst
  · obtain ⟨g, rfl, hg, _⟩ := h.2.1 _ rfl
    have : st = .oid y0 y1 := by simpa [decOid, oidC] using hst.symm
    subst this
    exact ⟨_, _, rfl, g, rfl, hg⟩
theorem pu_bit {w : World} {r : Option (Array Value)} {e : Ending} {w' : World} (h : CloPost w 183 174 r e w') (hr : r = none ∨ ∃ y0 y1 y2, r = some (bitC y0 y1 y2)) : PuPost w (r.map decBit) e w' := by
  refine ⟨fun h2 => h.1 (by cases r <;> simp_all), fun st hst => ?_, h.2.2⟩
  rcases hr with rfl | ⟨y0, y1, y2, rfl⟩
  · cases hst
  · obtain ⟨g, rfl, hg, _⟩ := h.2.1 _ rfl
    have : st = .bit y0 y1 y2 := by simpa [decBit, bitC] using hst.symm
    subst this
    exact ⟨_, _, rfl, g, rfl, hg⟩
theorem pu_whn {w : World} {r : Option (Array Value)} {e : Ending} {w' : World} (h : CloPost w 214 175 r e w') (hr : r = none ∨ ∃ y0 y1 y2, r = some (whnC y0 y1 y2)) : PuPost w (r.map decWhn) e w' := by
  refine ⟨fun h2 => h.1 (by cases r <;> simp_all), fun st hst => ?_, h.2.2⟩
  rcases hr with rfl | ⟨y0, y1, y2, rfl⟩
  · cases hst
  · obtain ⟨g, rfl, hg, _⟩ := h.2.1 _ rfl
    have : st = .whn y0 y1 y2 := by simpa [decWhn, whnC] using hst.symm
    subst this
    exact ⟨_, _, rfl, g, rfl, hg⟩
theorem pu_txt {w : World} {r : Option (Array Value)} {e : Ending} {w' : World} (h : CloPost w 219 176 r e w') (hr : r = none ∨ ∃ y0 y1 y2 y3 y4, r = some (txtC y0 y1 y2 y3 y4)) : PuPost w (r.map decTxt) e w' := by
  refine ⟨fun h2 => h.1 (by cases r <;> simp_all), fun st hst => ?_, h.2.2⟩
  rcases hr with rfl | ⟨y0, y1, y2, y3, y4, rfl⟩
  · cases hst
  · obtain ⟨g, rfl, hg, _⟩ := h.2.1 _ rfl
    have : st = .txt y0 y1 y2 y3 y4 := by simpa [decTxt, txtC] using hst.symm
    subst this
    exact ⟨_, _, rfl, g, rfl, hg⟩
set_option maxRecDepth 100000 in
set_option maxHeartbeats 1000000 in
theorem any_any (w : World) (b : Int) : Calls Try.prog 67 #[.int .u8 b] w (PuPost w (some .any)) := by
  go_enter Try.func67, Try.ntmps67
  go_wp2_with fail
  go_ret2
  refine ⟨(fun h => by cases h), fun st h => ?_, Below.refl _ _⟩
  injection h with h
  subst h
  exact ⟨_, _, rfl, rfl⟩
end Go.Proofs.Ytkabmmpccfeffaa
