/- Layer 15 (value): a content's function value takes a byte; Checker.look of any event. -/
import Derived.Test.YtkabmmpccfeffaaVChk2
namespace Go.Proofs.Ytkabmmpccfeffaa
open Go.RowKit
set_option linter.unusedVariables false
set_option linter.unusedSimpArgs false
theorem takes_num (w : World) (g : Nat) (tag : Int) (n : Int) (at_ : Int) (first : Int) (r b : Int) (hb : w.heap[g]? = some (.cells (numC tag n at_ first) 203 (0, 0))) (hi : CInv (.num tag n at_ first) r) (h0 : 0 < r) (h1 : r ≤ 2305843009213693951) :
    Takes w 172 #[.pointer (some ⟨g, 0, none⟩)] b (cPush (.num tag n at_ first) b) := by
  intro W hW
  have hb2 := (hW.block g (blk_lt hb)).trans hb
  refine (clo_number W g tag n at_ first b hi.1 (by have := hi.2; omega) hb2).mono fun e w' h => pu_num h ?_
  rcases number_cells tag n at_ first b with h | ⟨cs, h, y0, y1, y2, y3, rfl⟩
  · exact .inl h
  · exact .inr ⟨y0, y1, y2, y3, h⟩
theorem enter_num : ∀ (args : Array Value) (W : World), (callFunc 172 args).run Try.prog W = .ok (.enter 172 args) W := enter_of Try.func172 (by kernel_rfl) (by kernel_rfl)
theorem takes_oid (w : World) (g : Nat) (left : Int) (within : Bool) (r b : Int) (hb : w.heap[g]? = some (.cells (oidC left within) 208 (0, 0))) (hi : CInv (.oid left within) r) (h0 : 0 < r) (h1 : r ≤ 2305843009213693951) :
    Takes w 173 #[.pointer (some ⟨g, 0, none⟩)] b (cPush (.oid left within) b) := by
  intro W hW
  have hb2 := (hW.block g (blk_lt hb)).trans hb
  refine (clo_oid W g left within b (by have := hi; simp only [CInv] at this; omega) (by have := hi; simp only [CInv] at this; omega) hb2).mono fun e w' h => pu_oid h ?_
  rcases oid_cells left within b with h | ⟨cs, h, y0, y1, rfl⟩
  · exact .inl h
  · exact .inr ⟨y0, y1, h⟩
theorem enter_oid : ∀ (args : Array Value) (W : World), (callFunc 173 args).run Try.prog W = .ok (.enter 173 args) W := enter_of Try.func173 (by kernel_rfl) (by kernel_rfl)
theorem takes_bit (w : World) (g : Nat) (left : Int) (begun : Bool) (unused : Int) (r b : Int) (hb : w.heap[g]? = some (.cells (bitC left begun unused) 183 (0, 0))) (hi : CInv (.bit left begun unused) r) (h0 : 0 < r) (h1 : r ≤ 2305843009213693951) :
    Takes w 174 #[.pointer (some ⟨g, 0, none⟩)] b (cPush (.bit left begun unused) b) := by
  intro W hW
  have hb2 := (hW.block g (blk_lt hb)).trans hb
  refine (clo_bitstr W g left begun unused b (by have := hi.1; omega) (by have := hi.1; omega) hi.2.1 hi.2.2 hb2).mono fun e w' h => pu_bit h ?_
  rcases bitstr_cells left begun unused b with h | ⟨cs, h, y0, y1, y2, rfl⟩
  · exact .inl h
  · exact .inr ⟨y0, y1, y2, h⟩
theorem enter_bit : ∀ (args : Array Value) (W : World), (callFunc 174 args).run Try.prog W = .ok (.enter 174 args) W := enter_of Try.func174 (by kernel_rfl) (by kernel_rfl)
theorem takes_whn (w : World) (g : Nat) (date : ByteArray) (left : Int) (utc : Bool) (r b : Int) (hb : w.heap[g]? = some (.cells (whnC date left utc) 214 (0, 0))) (hi : CInv (.whn date left utc) r) (h0 : 0 < r) (h1 : r ≤ 2305843009213693951) :
    Takes w 175 #[.pointer (some ⟨g, 0, none⟩)] b (cPush (.whn date left utc) b) := by
  intro W hW
  have hb2 := (hW.block g (blk_lt hb)).trans hb
  refine (clo_when W g date left utc b (by have := hi.1; omega) (by have := hi.1; omega) (hi.2 h0).1 (by intro h; have h1 := hi.1; have h2 := (hi.2 h0).2; omega) hb2).mono fun e w' h => pu_whn h ?_
  rcases when_cells date left utc b with h | ⟨cs, h, y0, y1, y2, rfl⟩
  · exact .inl h
  · exact .inr ⟨y0, y1, y2, h⟩
theorem enter_whn : ∀ (args : Array Value) (W : World), (callFunc 175 args).run Try.prog W = .ok (.enter 175 args) W := enter_of Try.func175 (by kernel_rfl) (by kernel_rfl)
theorem takes_txt (w : World) (g : Nat) (tag : Int) (left : Int) (more : Int) (low : Int) (high : Int) (r b : Int) (hb : w.heap[g]? = some (.cells (txtC tag left more low high) 219 (0, 0))) (hi : CInv (.txt tag left more low high) r) (h0 : 0 < r) (h1 : r ≤ 2305843009213693951) :
    Takes w 176 #[.pointer (some ⟨g, 0, none⟩)] b (cPush (.txt tag left more low high) b) := by
  intro W hW
  have hb2 := (hW.block g (blk_lt hb)).trans hb
  refine (clo_text W g tag left more low high b (by have := hi.1; omega) (by have := hi.1; omega) hi.2.1 (by have := hi.2.2; omega) hb2).mono fun e w' h => pu_txt h ?_
  rcases text_cells tag left more low high b with h | ⟨cs, h, y0, y1, y2, y3, y4, rfl⟩
  · exact .inl h
  · exact .inr ⟨y0, y1, y2, y3, y4, h⟩
theorem enter_txt : ∀ (args : Array Value) (W : World), (callFunc 176 args).run Try.prog W = .ok (.enter 176 args) W := enter_of Try.func176 (by kernel_rfl) (by kernel_rfl)
theorem enter_any : ∀ (args : Array Value) (W : World), (callFunc 67 args).run Try.prog W = .ok (.enter 67 args) W := enter_of Try.func67 (by kernel_rfl) (by kernel_rfl)
theorem takes_any (w : World) (F : FuncId) (caps : Array Value) (st : CSt) (r b : Int) (h : IsPush w (.func (.func F) #[] caps) st) (hi : CInv st r) (h0 : 0 < r) (h1 : r ≤ 2305843009213693951) :
    Takes w F caps b (cPush st b) ∧ ∀ (args : Array Value) (W : World), (callFunc F args).run Try.prog W = .ok (.enter F args) W := by
  cases st with
  | any =>
    have h : Value.func (.func F) #[] caps = .func (.func 67) #[] #[] := h
    injection h with h1 _ h2
    injection h1 with h1
    subst h1 h2
    exact ⟨fun W _ => any_any W b, enter_any⟩
  | num tag n at_ first =>
    obtain ⟨g, h, hb⟩ := h
    injection h with h3 _ h2
    injection h3 with h3
    subst h3 h2
    exact ⟨takes_num w g tag n at_ first r b hb hi h0 h1, enter_num⟩
  | oid left within =>
    obtain ⟨g, h, hb⟩ := h
    injection h with h3 _ h2
    injection h3 with h3
    subst h3 h2
    exact ⟨takes_oid w g left within r b hb hi h0 h1, enter_oid⟩
  | bit left begun unused =>
    obtain ⟨g, h, hb⟩ := h
    injection h with h3 _ h2
    injection h3 with h3
    subst h3 h2
    exact ⟨takes_bit w g left begun unused r b hb hi h0 h1, enter_bit⟩
  | whn date left utc =>
    obtain ⟨g, h, hb⟩ := h
    injection h with h3 _ h2
    injection h3 with h3
    subst h3 h2
    exact ⟨takes_whn w g date left utc r b hb hi h0 h1, enter_whn⟩
  | txt tag left more low high =>
    obtain ⟨g, h, hb⟩ := h
    injection h with h3 _ h2
    injection h3 with h3
    subst h3 h2
    exact ⟨takes_txt w g tag left more low high r b hb hi h0 h1, enter_txt⟩
/-- A Checker that has told of nothing yet: its content's state, and how many bytes of a content are to come. -/
def ChkIn (w : World) (B g : Nat) (st : CSt) (r : Int) : Prop := ∃ (F : FuncId) (caps : Array Value), IsChk w B g (.func (.func F) #[] caps) false ∧ IsPush w (.func (.func F) #[] caps) st ∧ CInv st r
theorem look_all (w : World) (B g : Nat) (st : CSt) (r : Int) (x : Ev) (h : ChkIn w B g st r) (hB : B ≤ w.heap.size) (hr : x.kind = 3 → 0 < r ∧ r ≤ 2305843009213693951) :
    Calls Try.prog 70 #[.pointer (some ⟨g, 0, none⟩), evArg x] w (LookPost w B g (vLook st x)) := by
  obtain ⟨F, caps, hc, hp, hi⟩ := h
  by_cases k3 : x.kind = 3
  · have ht := takes_any w F caps st r x.b hp hi (hr k3).1 (hr k3).2
    have e1 : vLook st x = cPush st x.b := by unfold vLook; rw [if_pos k3]
    rw [e1]
    exact look_byte w B g F caps x _ hc hB ht.1 ht.2 k3
  by_cases k1 : x.kind = 1
  · exact look_enter w B g _ st x hc hB ⟨F, caps, rfl, hp⟩ k1
  by_cases k2 : x.kind = 2
  · by_cases c : x.h.cl = 0
    · exact look_start w B g F caps st x hc hB k2 c
    · exact look_leaf w B g F caps st x hc hB k2 c
  · exact look_other w B g _ st x hc hB ⟨F, caps, rfl, hp⟩ ⟨k1, k2, k3⟩
/-- What Checker.Push leaves. -/
def ChkPost (w : World) (B g : Nat) (r : Option CSt) (e : Ending) (w' : World) : Prop :=
  e = .returned (.int .i64 (if r.isSome = true then 0 else 7)) ∧ Kp B [111] w w' ∧ ∃ v, IsChk w' B g v (!r.isSome) ∧ (∀ st, r = some st → ∃ (F : FuncId) (caps : Array Value), v = .func (.func F) #[] caps ∧ IsPush w' v st)
set_option maxRecDepth 100000 in
set_option maxHeartbeats 2000000 in
theorem chkpush_any (w : World) (B g : Nat) (st : CSt) (r : Int) (x : Ev) (h : ChkIn w B g st r) (hB : B ≤ w.heap.size) (hr : x.kind = 3 → 0 < r ∧ r ≤ 2305843009213693951) :
    Calls Try.prog 39 #[.pointer (some ⟨g, 0, none⟩), evArg x] w (ChkPost w B g (vLook st x)) := by
  have bx := (Below.refl w.heap.size w).alloc (Nat.le_refl _) (.cells #[.int .i64 x.kind, .int .i64 x.at_, .int .i64 x.h.cl, .int .i64 x.h.tag, .bool x.h.cons, .int .i64 x.h.len, .int .u8 x.b] 67)
  have hin : ∀ W, Below w.heap.size w W → ChkIn W B g st r := by
    intro W hW
    obtain ⟨F, caps, hc, hp, hi⟩ := h
    exact ⟨F, caps, ⟨(hW.block g (blk_lt hc.1)).trans hc.1, hc.2⟩, hp.below hW, hi⟩
  have lk := fun W (hW : Below w.heap.size w W) => look_all W B g st r x (hin W hW) (Nat.le_trans hB hW.size) hr
  obtain ⟨F, caps, ⟨hb, hg⟩, _⟩ := h
  have h1 := blk_cell hb 1
  simp only [List.getElem?_toArray, List.getElem?_cons_zero, List.getElem?_cons_succ] at h1
  have hgl := blk_lt hb
  generalize vLook st x = q at lk ⊢
  have LK := Lib.hid lk
  have BX := Lib.hid bx
  unfold evArg at LK
  unfold evArg
  clear lk hin hb hr bx
  cases q with
  | none =>
    go_enter Try.func39, Try.ntmps39
    go_wp2_with fail
    refine (LK.out _ BX.out).mono ?_
    rintro e w2 ⟨rfl, hk, v', ⟨hb2, _⟩, hs⟩
    have f1 := blk_cell hb2 1
    have z1 := blk_frozen hb2 1
    simp only [List.getElem?_toArray, List.getElem?_cons_zero, List.getElem?_cons_succ] at f1
    have HB2 := Lib.hid hb2
    have HK := Lib.hid ((Kp.of_below (B := B) (ts := [111]) BX.out hB).trans hk)
    have HS := Lib.hid hs
    clear hb2 hk hs
    simp only [Option.isSome_none, Option.isSome_some]
    go_wp2_with fail
    go_ret
    exact ⟨rfl, HK.out.setCell HB2.out hg (.inl (by simp)), v', ⟨blk_set HB2.out 1 _, hg⟩, (fun st h => by cases h)⟩
  | some st2 =>
    go_enter Try.func39, Try.ntmps39
    go_wp2_with fail
    refine (LK.out _ BX.out).mono ?_
    rintro e w2 ⟨rfl, hk, v', ⟨hb2, _⟩, hs⟩
    have f1 := blk_cell hb2 1
    have z1 := blk_frozen hb2 1
    simp only [List.getElem?_toArray, List.getElem?_cons_zero, List.getElem?_cons_succ] at f1
    have HB2 := Lib.hid hb2
    have HK := Lib.hid ((Kp.of_below (B := B) (ts := [111]) BX.out hB).trans hk)
    have HS := Lib.hid hs
    clear hb2 hk hs
    simp only [Option.isSome_none, Option.isSome_some]
    go_wp2_with fail
    go_ret
    have k2 := (Kp.refl B [111] w2).setCell (i := 1) (u := .bool false) HB2.out hg (.inl (by simp))
    refine ⟨rfl, HK.out.setCell HB2.out hg (.inl (by simp)), v', ⟨blk_set HB2.out 1 _, hg⟩, fun st' h => ?_⟩
    obtain ⟨F', caps', rfl, hp⟩ := HS.out _ h
    exact ⟨F', caps', rfl, hp.kp k2 (fun t ht => chk_not ht)⟩
end Go.Proofs.Ytkabmmpccfeffaa
