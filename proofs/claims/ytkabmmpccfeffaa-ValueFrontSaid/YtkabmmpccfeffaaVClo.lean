/- Layer 15 (value.wrap and its closures): by contracts. -/
import Derived.Test.YtkabmmpccfeffaaVText2
import Derived.Test.YtkabmmpccfeffaaVWPush
namespace Go.Proofs.Ytkabmmpccfeffaa
open Go.RowKit
set_option linter.unusedVariables false
set_option linter.unusedSimpArgs false
/-- The outcome of a content's start or next byte, as a function value. -/
def CloPost (w : World) (T : TypeId) (F : FuncId) (r : Option (Array Value)) (e : Ending) (w' : World) : Prop :=
  (r = none → e = .returned (.tuple #[Value.nilFunc, .bool false])) ∧
  (∀ cs, r = some cs → ∃ g, e = .returned (.tuple #[.func (.func F) #[] #[.pointer (some ⟨g, 0, none⟩)], .bool true]) ∧ w'.heap[g]? = some (.cells cs T (0, 0)) ∧ w.heap.size ≤ g) ∧ Below w.heap.size w w'

set_option maxRecDepth 100000 in
set_option maxHeartbeats 1000000 in
theorem wrap_number_ok (w : World) (tag : Int) (n : Int) (at_ : Int) (first : Int) : Calls Try.prog 140 #[.agg #[.int .i64 tag, .int .i64 n, .int .i64 at_, .int .u8 first], .bool true] w (CloPost w 203 172 (some #[.int .i64 tag, .int .i64 n, .int .i64 at_, .int .u8 first])) := by
  go_enter Try.func140, Try.ntmps140
  go_wp2_with fail
  go_ret2
  refine ⟨(fun h => by cases h), fun cs h => ?_, (Below.refl _ _).alloc (Nat.le_refl _) _⟩
  injection h with h
  subst h
  exact ⟨_, rfl, heap_alloc_new w _, Nat.le_refl _⟩
set_option maxRecDepth 100000 in
set_option maxHeartbeats 1000000 in
theorem wrap_number_no (w : World) (tag : Int) (n : Int) (at_ : Int) (first : Int) : Calls Try.prog 140 #[.agg #[.int .i64 tag, .int .i64 n, .int .i64 at_, .int .u8 first], .bool false] w (CloPost w 203 172 none) := by
  go_enter Try.func140, Try.ntmps140
  go_wp2_with fail
  go_ret2
  exact ⟨fun _ => rfl, (fun cs h => by cases h), (Below.refl _ _).alloc (Nat.le_refl _) _⟩
theorem number_cells (tag : Int) (n : Int) (at_ : Int) (first : Int) (b : Int) : (numPush tag n at_ first b = none ∨ ∃ cs, numPush tag n at_ first b = some cs ∧ ∃ (tag : Int) (n : Int) (at_ : Int) (first : Int), cs = #[.int .i64 tag, .int .i64 n, .int .i64 at_, .int .u8 first]) := by
  unfold numPush
  repeat' (first | exact .inl rfl | exact .inr ⟨_, rfl, _, _, _, _, rfl⟩ | split)
theorem method_number (tag : Int) (n : Int) (at_ : Int) (first : Int) : ∀ W : World, (method 372 203 (.agg #[.int .i64 tag, .int .i64 n, .int .i64 at_, .int .u8 first]) "Push").run Try.prog W = .ok (183, .agg #[.int .i64 tag, .int .i64 n, .int .i64 at_, .int .u8 first]) W := fun _ => by kernel_rfl
set_option maxRecDepth 100000 in
set_option maxHeartbeats 1000000 in
theorem clo_number (w : World) (g : Nat) (tag : Int) (n : Int) (at_ : Int) (first : Int) (b : Int) (h0 : 0 ≤ at_) (h1 : at_ < 9223372036854775806) (hb : w.heap[g]? = some (.cells #[.int .i64 tag, .int .i64 n, .int .i64 at_, .int .u8 first] 203 (0, 0))) : Calls Try.prog 172 #[.int .u8 b, .pointer (some ⟨g, 0, none⟩)] w (CloPost w 203 172 (numPush tag n at_ first b)) := by
  have q0 := blk_cell hb 0
  have q1 := blk_cell hb 1
  have q2 := blk_cell hb 2
  have q3 := blk_cell hb 3
  simp only [List.getElem?_toArray, List.getElem?_cons_zero, List.getElem?_cons_succ] at q0 q1 q2 q3
  have mt := method_number tag n at_ first
  have pu := fun W => numPush_any W tag n at_ first b h0 h1
  unfold StPost at pu
  have PU := Lib.hid pu
  rcases number_cells tag n at_ first b with hn | ⟨cs, hs, y0, y1, y2, y3, rfl⟩
  · rw [hn]
    rw [hn] at PU
    clear hb pu hn
    go_enter Try.func172, Try.ntmps172
    go_wp2_with fail
    refine (PU.out _).mono ?_
    rintro e w1 ⟨rfl, hb1⟩
    have HB1 := Lib.hid hb1
    clear hb1
    simp only [Option.getD_none, Option.isSome_none, numZ]
    go_wp2_with fail
    refine (wrap_number_no _ _ _ _ _).mono ?_
    rintro e w2 ⟨ha, _, hb2⟩
    obtain rfl := ha rfl
    have HB2 := Lib.hid (HB1.out.trans (hb2.mono HB1.out.size))
    clear hb2 ha
    go_wp2_with fail
    go_ret2
    exact ⟨fun _ => rfl, (fun cs h => by cases h), HB2.out⟩
  · rw [hs]
    rw [hs] at PU
    clear hb pu hs
    go_enter Try.func172, Try.ntmps172
    go_wp2_with fail
    refine (PU.out _).mono ?_
    rintro e w1 ⟨rfl, hb1⟩
    have HB1 := Lib.hid hb1
    clear hb1
    simp only [Option.getD_some, Option.isSome_some]
    go_wp2_with fail
    refine (wrap_number_ok _ _ _ _ _).mono ?_
    rintro e w2 ⟨_, ha, hb2⟩
    obtain ⟨g2, rfl, hg2, hge⟩ := ha _ rfl
    have HB2 := Lib.hid (HB1.out.trans (hb2.mono HB1.out.size))
    have HG2 := Lib.hid hg2
    have hge2 := Nat.le_trans HB1.out.size hge
    clear hb2 ha hg2
    go_wp2_with fail
    go_ret2
    refine ⟨(fun h => by cases h), fun cs h => ?_, HB2.out⟩
    injection h with h
    subst h
    exact ⟨g2, rfl, HG2.out, hge2⟩

set_option maxRecDepth 100000 in
set_option maxHeartbeats 1000000 in
theorem wrap_oid_ok (w : World) (left : Int) (within : Bool) : Calls Try.prog 142 #[.agg #[.int .i64 left, .bool within], .bool true] w (CloPost w 208 173 (some #[.int .i64 left, .bool within])) := by
  go_enter Try.func142, Try.ntmps142
  go_wp2_with fail
  go_ret2
  refine ⟨(fun h => by cases h), fun cs h => ?_, (Below.refl _ _).alloc (Nat.le_refl _) _⟩
  injection h with h
  subst h
  exact ⟨_, rfl, heap_alloc_new w _, Nat.le_refl _⟩
set_option maxRecDepth 100000 in
set_option maxHeartbeats 1000000 in
theorem wrap_oid_no (w : World) (left : Int) (within : Bool) : Calls Try.prog 142 #[.agg #[.int .i64 left, .bool within], .bool false] w (CloPost w 208 173 none) := by
  go_enter Try.func142, Try.ntmps142
  go_wp2_with fail
  go_ret2
  exact ⟨fun _ => rfl, (fun cs h => by cases h), (Below.refl _ _).alloc (Nat.le_refl _) _⟩
theorem oid_cells (left : Int) (within : Bool) (b : Int) : (oidPush left within b = none ∨ ∃ cs, oidPush left within b = some cs ∧ ∃ (left : Int) (within : Bool), cs = #[.int .i64 left, .bool within]) := by
  unfold oidPush
  repeat' (first | exact .inl rfl | exact .inr ⟨_, rfl, _, _, rfl⟩ | split)
theorem method_oid (left : Int) (within : Bool) : ∀ W : World, (method 372 208 (.agg #[.int .i64 left, .bool within]) "Push").run Try.prog W = .ok (220, .agg #[.int .i64 left, .bool within]) W := fun _ => by kernel_rfl
set_option maxRecDepth 100000 in
set_option maxHeartbeats 1000000 in
theorem clo_oid (w : World) (g : Nat) (left : Int) (within : Bool) (b : Int) (h0 : 0 < left) (h1 : left ≤ 9223372036854775806) (hb : w.heap[g]? = some (.cells #[.int .i64 left, .bool within] 208 (0, 0))) : Calls Try.prog 173 #[.int .u8 b, .pointer (some ⟨g, 0, none⟩)] w (CloPost w 208 173 (oidPush left within b)) := by
  have q0 := blk_cell hb 0
  have q1 := blk_cell hb 1
  simp only [List.getElem?_toArray, List.getElem?_cons_zero, List.getElem?_cons_succ] at q0 q1
  have mt := method_oid left within
  have pu := fun W => oidPush_any W left within b h0 h1
  unfold StPost at pu
  have PU := Lib.hid pu
  rcases oid_cells left within b with hn | ⟨cs, hs, y0, y1, rfl⟩
  · rw [hn]
    rw [hn] at PU
    clear hb pu hn
    go_enter Try.func173, Try.ntmps173
    go_wp2_with fail
    refine (PU.out _).mono ?_
    rintro e w1 ⟨rfl, hb1⟩
    have HB1 := Lib.hid hb1
    clear hb1
    simp only [Option.getD_none, Option.isSome_none, oidZ]
    go_wp2_with fail
    refine (wrap_oid_no _ _ _).mono ?_
    rintro e w2 ⟨ha, _, hb2⟩
    obtain rfl := ha rfl
    have HB2 := Lib.hid (HB1.out.trans (hb2.mono HB1.out.size))
    clear hb2 ha
    go_wp2_with fail
    go_ret2
    exact ⟨fun _ => rfl, (fun cs h => by cases h), HB2.out⟩
  · rw [hs]
    rw [hs] at PU
    clear hb pu hs
    go_enter Try.func173, Try.ntmps173
    go_wp2_with fail
    refine (PU.out _).mono ?_
    rintro e w1 ⟨rfl, hb1⟩
    have HB1 := Lib.hid hb1
    clear hb1
    simp only [Option.getD_some, Option.isSome_some]
    go_wp2_with fail
    refine (wrap_oid_ok _ _ _).mono ?_
    rintro e w2 ⟨_, ha, hb2⟩
    obtain ⟨g2, rfl, hg2, hge⟩ := ha _ rfl
    have HB2 := Lib.hid (HB1.out.trans (hb2.mono HB1.out.size))
    have HG2 := Lib.hid hg2
    have hge2 := Nat.le_trans HB1.out.size hge
    clear hb2 ha hg2
    go_wp2_with fail
    go_ret2
    refine ⟨(fun h => by cases h), fun cs h => ?_, HB2.out⟩
    injection h with h
    subst h
    exact ⟨g2, rfl, HG2.out, hge2⟩

set_option maxRecDepth 100000 in
set_option maxHeartbeats 1000000 in
theorem wrap_bitstr_ok (w : World) (left : Int) (begun : Bool) (unused : Int) : Calls Try.prog 144 #[.agg #[.int .i64 left, .bool begun, .int .u8 unused], .bool true] w (CloPost w 183 174 (some #[.int .i64 left, .bool begun, .int .u8 unused])) := by
  go_enter Try.func144, Try.ntmps144
  go_wp2_with fail
  go_ret2
  refine ⟨(fun h => by cases h), fun cs h => ?_, (Below.refl _ _).alloc (Nat.le_refl _) _⟩
  injection h with h
  subst h
  exact ⟨_, rfl, heap_alloc_new w _, Nat.le_refl _⟩
set_option maxRecDepth 100000 in
set_option maxHeartbeats 1000000 in
theorem wrap_bitstr_no (w : World) (left : Int) (begun : Bool) (unused : Int) : Calls Try.prog 144 #[.agg #[.int .i64 left, .bool begun, .int .u8 unused], .bool false] w (CloPost w 183 174 none) := by
  go_enter Try.func144, Try.ntmps144
  go_wp2_with fail
  go_ret2
  exact ⟨fun _ => rfl, (fun cs h => by cases h), (Below.refl _ _).alloc (Nat.le_refl _) _⟩
theorem bitstr_cells (left : Int) (begun : Bool) (unused : Int) (b : Int) : (bitPush left begun unused b = none ∨ ∃ cs, bitPush left begun unused b = some cs ∧ ∃ (left : Int) (begun : Bool) (unused : Int), cs = #[.int .i64 left, .bool begun, .int .u8 unused]) := by
  unfold bitPush
  repeat' (first | exact .inl rfl | exact .inr ⟨_, rfl, _, _, _, rfl⟩ | split)
theorem method_bitstr (left : Int) (begun : Bool) (unused : Int) : ∀ W : World, (method 372 183 (.agg #[.int .i64 left, .bool begun, .int .u8 unused]) "Push").run Try.prog W = .ok (130, .agg #[.int .i64 left, .bool begun, .int .u8 unused]) W := fun _ => by kernel_rfl
set_option maxRecDepth 100000 in
set_option maxHeartbeats 1000000 in
theorem clo_bitstr (w : World) (g : Nat) (left : Int) (begun : Bool) (unused : Int) (b : Int) (h0 : 0 < left) (h1 : left ≤ 9223372036854775806) (h2 : 0 ≤ unused) (h3 : unused ≤ 7) (hb : w.heap[g]? = some (.cells #[.int .i64 left, .bool begun, .int .u8 unused] 183 (0, 0))) : Calls Try.prog 174 #[.int .u8 b, .pointer (some ⟨g, 0, none⟩)] w (CloPost w 183 174 (bitPush left begun unused b)) := by
  have q0 := blk_cell hb 0
  have q1 := blk_cell hb 1
  have q2 := blk_cell hb 2
  simp only [List.getElem?_toArray, List.getElem?_cons_zero, List.getElem?_cons_succ] at q0 q1 q2
  have mt := method_bitstr left begun unused
  have pu := fun W => bitPush_any W left begun unused b h0 h1 h2 h3
  unfold StPost at pu
  have PU := Lib.hid pu
  rcases bitstr_cells left begun unused b with hn | ⟨cs, hs, y0, y1, y2, rfl⟩
  · rw [hn]
    rw [hn] at PU
    clear hb pu hn
    go_enter Try.func174, Try.ntmps174
    go_wp2_with fail
    refine (PU.out _).mono ?_
    rintro e w1 ⟨rfl, hb1⟩
    have HB1 := Lib.hid hb1
    clear hb1
    simp only [Option.getD_none, Option.isSome_none, bitZ]
    go_wp2_with fail
    refine (wrap_bitstr_no _ _ _ _).mono ?_
    rintro e w2 ⟨ha, _, hb2⟩
    obtain rfl := ha rfl
    have HB2 := Lib.hid (HB1.out.trans (hb2.mono HB1.out.size))
    clear hb2 ha
    go_wp2_with fail
    go_ret2
    exact ⟨fun _ => rfl, (fun cs h => by cases h), HB2.out⟩
  · rw [hs]
    rw [hs] at PU
    clear hb pu hs
    go_enter Try.func174, Try.ntmps174
    go_wp2_with fail
    refine (PU.out _).mono ?_
    rintro e w1 ⟨rfl, hb1⟩
    have HB1 := Lib.hid hb1
    clear hb1
    simp only [Option.getD_some, Option.isSome_some]
    go_wp2_with fail
    refine (wrap_bitstr_ok _ _ _ _).mono ?_
    rintro e w2 ⟨_, ha, hb2⟩
    obtain ⟨g2, rfl, hg2, hge⟩ := ha _ rfl
    have HB2 := Lib.hid (HB1.out.trans (hb2.mono HB1.out.size))
    have HG2 := Lib.hid hg2
    have hge2 := Nat.le_trans HB1.out.size hge
    clear hb2 ha hg2
    go_wp2_with fail
    go_ret2
    refine ⟨(fun h => by cases h), fun cs h => ?_, HB2.out⟩
    injection h with h
    subst h
    exact ⟨g2, rfl, HG2.out, hge2⟩

set_option maxRecDepth 100000 in
set_option maxHeartbeats 1000000 in
theorem wrap_when_ok (w : World) (date : ByteArray) (left : Int) (utc : Bool) : Calls Try.prog 145 #[.agg #[.string date, .int .i64 left, .bool utc], .bool true] w (CloPost w 214 175 (some #[.string date, .int .i64 left, .bool utc])) := by
  go_enter Try.func145, Try.ntmps145
  go_wp2_with fail
  go_ret2
  refine ⟨(fun h => by cases h), fun cs h => ?_, (Below.refl _ _).alloc (Nat.le_refl _) _⟩
  injection h with h
  subst h
  exact ⟨_, rfl, heap_alloc_new w _, Nat.le_refl _⟩
set_option maxRecDepth 100000 in
set_option maxHeartbeats 1000000 in
theorem wrap_when_no (w : World) (date : ByteArray) (left : Int) (utc : Bool) : Calls Try.prog 145 #[.agg #[.string date, .int .i64 left, .bool utc], .bool false] w (CloPost w 214 175 none) := by
  go_enter Try.func145, Try.ntmps145
  go_wp2_with fail
  go_ret2
  exact ⟨fun _ => rfl, (fun cs h => by cases h), (Below.refl _ _).alloc (Nat.le_refl _) _⟩
theorem when_cells (date : ByteArray) (left : Int) (utc : Bool) (b : Int) : (whnPush date left utc b = none ∨ ∃ cs, whnPush date left utc b = some cs ∧ ∃ (date : ByteArray) (left : Int) (utc : Bool), cs = #[.string date, .int .i64 left, .bool utc]) := by
  unfold whnPush whnNext
  repeat' (first | exact .inl rfl | exact .inr ⟨_, rfl, _, _, _, rfl⟩ | split)
theorem method_when (date : ByteArray) (left : Int) (utc : Bool) : ∀ W : World, (method 372 214 (.agg #[.string date, .int .i64 left, .bool utc]) "Push").run Try.prog W = .ok (182, .agg #[.string date, .int .i64 left, .bool utc]) W := fun _ => by kernel_rfl
set_option maxRecDepth 100000 in
set_option maxHeartbeats 1000000 in
theorem clo_when (w : World) (g : Nat) (date : ByteArray) (left : Int) (utc : Bool) (b : Int) (h0 : 0 < left) (h1 : left ≤ 9223372036854775806) (hd : AllDig date) (hs : left ≠ 1 → date.size ≤ 13) (hb : w.heap[g]? = some (.cells #[.string date, .int .i64 left, .bool utc] 214 (0, 0))) : Calls Try.prog 175 #[.int .u8 b, .pointer (some ⟨g, 0, none⟩)] w (CloPost w 214 175 (whnPush date left utc b)) := by
  have q0 := blk_cell hb 0
  have q1 := blk_cell hb 1
  have q2 := blk_cell hb 2
  simp only [List.getElem?_toArray, List.getElem?_cons_zero, List.getElem?_cons_succ] at q0 q1 q2
  have mt := method_when date left utc
  have pu := fun W => whnPush_any W date left utc b h0 h1 hd hs
  unfold StPost at pu
  have PU := Lib.hid pu
  rcases when_cells date left utc b with hn | ⟨cs, hs, y0, y1, y2, rfl⟩
  · rw [hn]
    rw [hn] at PU
    clear hb pu hn
    go_enter Try.func175, Try.ntmps175
    go_wp2_with fail
    refine (PU.out _).mono ?_
    rintro e w1 ⟨rfl, hb1⟩
    have HB1 := Lib.hid hb1
    clear hb1
    simp only [Option.getD_none, Option.isSome_none, whnZ]
    go_wp2_with fail
    refine (wrap_when_no _ _ _ _).mono ?_
    rintro e w2 ⟨ha, _, hb2⟩
    obtain rfl := ha rfl
    have HB2 := Lib.hid (HB1.out.trans (hb2.mono HB1.out.size))
    clear hb2 ha
    go_wp2_with fail
    go_ret2
    exact ⟨fun _ => rfl, (fun cs h => by cases h), HB2.out⟩
  · rw [hs]
    rw [hs] at PU
    clear hb pu hs
    go_enter Try.func175, Try.ntmps175
    go_wp2_with fail
    refine (PU.out _).mono ?_
    rintro e w1 ⟨rfl, hb1⟩
    have HB1 := Lib.hid hb1
    clear hb1
    simp only [Option.getD_some, Option.isSome_some]
    go_wp2_with fail
    refine (wrap_when_ok _ _ _ _).mono ?_
    rintro e w2 ⟨_, ha, hb2⟩
    obtain ⟨g2, rfl, hg2, hge⟩ := ha _ rfl
    have HB2 := Lib.hid (HB1.out.trans (hb2.mono HB1.out.size))
    have HG2 := Lib.hid hg2
    have hge2 := Nat.le_trans HB1.out.size hge
    clear hb2 ha hg2
    go_wp2_with fail
    go_ret2
    refine ⟨(fun h => by cases h), fun cs h => ?_, HB2.out⟩
    injection h with h
    subst h
    exact ⟨g2, rfl, HG2.out, hge2⟩

set_option maxRecDepth 100000 in
set_option maxHeartbeats 1000000 in
theorem wrap_text_ok (w : World) (tag : Int) (left : Int) (more : Int) (low : Int) (high : Int) : Calls Try.prog 147 #[.agg #[.int .i64 tag, .int .i64 left, .int .i64 more, .int .u8 low, .int .u8 high], .bool true] w (CloPost w 219 176 (some #[.int .i64 tag, .int .i64 left, .int .i64 more, .int .u8 low, .int .u8 high])) := by
  go_enter Try.func147, Try.ntmps147
  go_wp2_with fail
  go_ret2
  refine ⟨(fun h => by cases h), fun cs h => ?_, (Below.refl _ _).alloc (Nat.le_refl _) _⟩
  injection h with h
  subst h
  exact ⟨_, rfl, heap_alloc_new w _, Nat.le_refl _⟩
set_option maxRecDepth 100000 in
set_option maxHeartbeats 1000000 in
theorem wrap_text_no (w : World) (tag : Int) (left : Int) (more : Int) (low : Int) (high : Int) : Calls Try.prog 147 #[.agg #[.int .i64 tag, .int .i64 left, .int .i64 more, .int .u8 low, .int .u8 high], .bool false] w (CloPost w 219 176 none) := by
  go_enter Try.func147, Try.ntmps147
  go_wp2_with fail
  go_ret2
  exact ⟨fun _ => rfl, (fun cs h => by cases h), (Below.refl _ _).alloc (Nat.le_refl _) _⟩
theorem text_cells (tag : Int) (left : Int) (more : Int) (low : Int) (high : Int) (b : Int) : (txtPush tag left more low high b = none ∨ ∃ cs, txtPush tag left more low high b = some cs ∧ ∃ (tag : Int) (left : Int) (more : Int) (low : Int) (high : Int), cs = #[.int .i64 tag, .int .i64 left, .int .i64 more, .int .u8 low, .int .u8 high]) := by
  unfold txtPush txtUtf8
  repeat' (first | exact .inl rfl | exact .inr ⟨_, rfl, _, _, _, _, _, rfl⟩ | split)
theorem method_text (tag : Int) (left : Int) (more : Int) (low : Int) (high : Int) : ∀ W : World, (method 372 219 (.agg #[.int .i64 tag, .int .i64 left, .int .i64 more, .int .u8 low, .int .u8 high]) "Push").run Try.prog W = .ok (160, .agg #[.int .i64 tag, .int .i64 left, .int .i64 more, .int .u8 low, .int .u8 high]) W := fun _ => by kernel_rfl
set_option maxRecDepth 100000 in
set_option maxHeartbeats 1000000 in
theorem clo_text (w : World) (g : Nat) (tag : Int) (left : Int) (more : Int) (low : Int) (high : Int) (b : Int) (h0 : 0 < left) (h1 : left ≤ 9223372036854775806) (h2 : 0 ≤ more) (h3 : more ≤ 9223372036854775806) (hb : w.heap[g]? = some (.cells #[.int .i64 tag, .int .i64 left, .int .i64 more, .int .u8 low, .int .u8 high] 219 (0, 0))) : Calls Try.prog 176 #[.int .u8 b, .pointer (some ⟨g, 0, none⟩)] w (CloPost w 219 176 (txtPush tag left more low high b)) := by
  have q0 := blk_cell hb 0
  have q1 := blk_cell hb 1
  have q2 := blk_cell hb 2
  have q3 := blk_cell hb 3
  have q4 := blk_cell hb 4
  simp only [List.getElem?_toArray, List.getElem?_cons_zero, List.getElem?_cons_succ] at q0 q1 q2 q3 q4
  have mt := method_text tag left more low high
  have pu := fun W => txtPush_any W tag left more low high b h0 h1 h2 h3
  unfold StPost at pu
  have PU := Lib.hid pu
  rcases text_cells tag left more low high b with hn | ⟨cs, hs, y0, y1, y2, y3, y4, rfl⟩
  · rw [hn]
    rw [hn] at PU
    clear hb pu hn
    go_enter Try.func176, Try.ntmps176
    go_wp2_with fail
    refine (PU.out _).mono ?_
    rintro e w1 ⟨rfl, hb1⟩
    have HB1 := Lib.hid hb1
    clear hb1
    simp only [Option.getD_none, Option.isSome_none, txtZ]
    go_wp2_with fail
    refine (wrap_text_no _ _ _ _ _ _).mono ?_
    rintro e w2 ⟨ha, _, hb2⟩
    obtain rfl := ha rfl
    have HB2 := Lib.hid (HB1.out.trans (hb2.mono HB1.out.size))
    clear hb2 ha
    go_wp2_with fail
    go_ret2
    exact ⟨fun _ => rfl, (fun cs h => by cases h), HB2.out⟩
  · rw [hs]
    rw [hs] at PU
    clear hb pu hs
    go_enter Try.func176, Try.ntmps176
    go_wp2_with fail
    refine (PU.out _).mono ?_
    rintro e w1 ⟨rfl, hb1⟩
    have HB1 := Lib.hid hb1
    clear hb1
    simp only [Option.getD_some, Option.isSome_some]
    go_wp2_with fail
    refine (wrap_text_ok _ _ _ _ _ _).mono ?_
    rintro e w2 ⟨_, ha, hb2⟩
    obtain ⟨g2, rfl, hg2, hge⟩ := ha _ rfl
    have HB2 := Lib.hid (HB1.out.trans (hb2.mono HB1.out.size))
    have HG2 := Lib.hid hg2
    have hge2 := Nat.le_trans HB1.out.size hge
    clear hb2 ha hg2
    go_wp2_with fail
    go_ret2
    refine ⟨(fun h => by cases h), fun cs h => ?_, HB2.out⟩
    injection h with h
    subst h
    exact ⟨g2, rfl, HG2.out, hge2⟩
end Go.Proofs.Ytkabmmpccfeffaa
