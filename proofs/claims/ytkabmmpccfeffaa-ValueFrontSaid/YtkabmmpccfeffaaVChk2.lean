/- Layer 15 (value.Checker): look at heads, Push, by contracts. -/
import Derived.Test.YtkabmmpccfeffaaVChk
import Derived.Outline
namespace Go.Proofs.Ytkabmmpccfeffaa
open Go.RowKit
set_option linter.unusedVariables false
set_option linter.unusedSimpArgs false
set_option maxRecDepth 100000 in
set_option maxHeartbeats 2000000 in
theorem look_enter (w : World) (B g : Nat) (v : Value) (st : CSt) (x : Ev) (h : IsChk w B g v false) (hB : B ≤ w.heap.size) (hv : ∃ (F : FuncId) (caps : Array Value), v = .func (.func F) #[] caps ∧ IsPush w v st) (hk : x.kind = 1) :
    Calls Try.prog 70 #[.pointer (some ⟨g, 0, none⟩), evArg x] w (LookPost w B g (vLook st x)) := by
  have k3 : (x.kind == 3) = false := by rw [hk]; rfl
  have k1 : (x.kind == 1) = true := by rw [hk]; rfl
  have k2 : (x.kind == 2) = false := by rw [hk]; rfl
  have bx := (Below.refl w.heap.size w).alloc (Nat.le_refl _) (.cells #[.int .i64 x.kind, .int .i64 x.at_, .int .i64 x.h.cl, .int .i64 x.h.tag, .bool x.h.cons, .int .i64 x.h.len, .int .u8 x.b] 67)
  have fin : ∀ W, Below w.heap.size w W → LookPost w B g (some st) (.returned (.bool true)) W ∧ LookPost w B g none (.returned (.bool false)) W := by
    intro W hW
    have kp := Kp.of_below (B := B) (ts := [111]) hW hB
    have hc : IsChk W B g v false := ⟨(hW.block g (blk_lt h.1)).trans h.1, h.2⟩
    obtain ⟨F, caps, rfl, hp⟩ := hv
    exact ⟨⟨rfl, kp, _, hc, fun st' e => by injection e with e; subst e; exact ⟨F, caps, rfl, hp.below hW⟩⟩, ⟨rfl, kp, _, hc, (fun st' e => by cases e)⟩⟩
  have FIN := Lib.hid fin
  unfold evArg
  cases t0 : (x.h.cl == 0) with
  | false =>
    have e1 : vLook st x = some st := by
      have : ¬ x.h.cl = 0 := by simpa using t0
      unfold vLook
      rw [if_neg (by omega), if_neg (by omega), if_neg (by omega), if_neg (by omega)]
    rw [e1]
    clear e1 fin bx h hv
    go_enter Try.func70, Try.ntmps70
    go_wp2_with fail
    go_ret
    exact (FIN.out _ ((Below.refl _ _).alloc (Nat.le_refl _) _)).1
  | true =>
    have c0 : x.h.cl = 0 := by simpa using t0
    have e1 : vLook st x = if x.h.tag = 16 ∨ x.h.tag = 17 then some st else none := by
      unfold vLook
      rw [if_neg (by omega), if_pos ⟨hk, c0⟩]
    rw [e1]
    clear e1 fin bx h hv c0
    cases t1 : (x.h.tag == 16) with
    | true =>
      rw [if_pos (.inl (by simpa using t1))]
      go_enter Try.func70, Try.ntmps70
      go_wp2_with fail
      go_ret
      exact (FIN.out _ ((Below.refl _ _).alloc (Nat.le_refl _) _)).1
    | false =>
      cases t2 : (x.h.tag == 17) with
      | true =>
        rw [if_pos (.inr (by simpa using t2))]
        go_enter Try.func70, Try.ntmps70
        go_wp2_with fail
        go_ret
        exact (FIN.out _ ((Below.refl _ _).alloc (Nat.le_refl _) _)).1
      | false =>
        rw [if_neg (by rintro (h | h) <;> simp_all)]
        go_enter Try.func70, Try.ntmps70
        go_wp2_with fail
        go_ret
        exact (FIN.out _ ((Below.refl _ _).alloc (Nat.le_refl _) _)).2
set_option maxRecDepth 100000 in
set_option maxHeartbeats 2000000 in
theorem look_other (w : World) (B g : Nat) (v : Value) (st : CSt) (x : Ev) (h : IsChk w B g v false) (hB : B ≤ w.heap.size) (hv : ∃ (F : FuncId) (caps : Array Value), v = .func (.func F) #[] caps ∧ IsPush w v st) (hk : x.kind ≠ 1 ∧ x.kind ≠ 2 ∧ x.kind ≠ 3) :
    Calls Try.prog 70 #[.pointer (some ⟨g, 0, none⟩), evArg x] w (LookPost w B g (vLook st x)) := by
  have k3 : (x.kind == 3) = false := beq_eq_false_iff_ne.2 hk.2.2
  have k1 : (x.kind == 1) = false := beq_eq_false_iff_ne.2 hk.1
  have k2 : (x.kind == 2) = false := beq_eq_false_iff_ne.2 hk.2.1
  have e1 : vLook st x = some st := by
    unfold vLook
    rw [if_neg hk.2.2, if_neg (fun e => hk.1 e.1), if_neg (fun e => hk.2.1 e.1), if_neg hk.2.1]
  rw [e1]
  have H := Lib.hid h
  have HV := Lib.hid hv
  unfold evArg
  clear e1 h hv hk
  go_enter Try.func70, Try.ntmps70
  go_wp2_with fail
  go_ret
  have hW := (Below.refl w.heap.size w).alloc (Nat.le_refl _) (.cells #[.int .i64 x.kind, .int .i64 x.at_, .int .i64 x.h.cl, .int .i64 x.h.tag, .bool x.h.cons, .int .i64 x.h.len, .int .u8 x.b] 67)
  obtain ⟨F, caps, rfl, hp⟩ := HV.out
  exact ⟨rfl, Kp.of_below hW hB, _, ⟨(hW.block g (blk_lt H.out.1)).trans H.out.1, H.out.2⟩, fun st' e => by injection e with e; subst e; exact ⟨F, caps, rfl, hp.below hW⟩⟩
set_option maxRecDepth 100000 in
set_option maxHeartbeats 2000000 in
theorem look_leaf (w : World) (B g : Nat) (F0 : FuncId) (caps0 : Array Value) (st : CSt) (x : Ev) (h : IsChk w B g (.func (.func F0) #[] caps0) false) (hB : B ≤ w.heap.size) (hk : x.kind = 2) (hc : x.h.cl ≠ 0) :
    Calls Try.prog 70 #[.pointer (some ⟨g, 0, none⟩), evArg x] w (LookPost w B g (vLook st x)) := by
  have k3 : (x.kind == 3) = false := by rw [hk]; rfl
  have k1 : (x.kind == 1) = false := by rw [hk]; rfl
  have k2 : (x.kind == 2) = true := by rw [hk]; rfl
  have t0 : (x.h.cl == 0) = false := beq_eq_false_iff_ne.2 hc
  have e1 : vLook st x = some .any := by
    unfold vLook
    rw [if_neg (by omega), if_neg (by omega), if_neg (by omega), if_pos hk]
  rw [e1]
  obtain ⟨hb, hg⟩ := h
  have h0 := blk_cell hb 0
  have z0 := blk_frozen hb 0
  simp only [List.getElem?_toArray, List.getElem?_cons_zero, List.getElem?_cons_succ] at h0
  have hgl := blk_lt hb
  have HB := Lib.hid hb
  unfold evArg
  clear e1 hb hk hc
  go_enter Try.func70, Try.ntmps70
  go_wp2_with fail
  go_ret
  have k1 := ((Kp.refl B [111] w).setCell (i := 0) (u := .func (.func 67) #[] #[]) HB.out hg (.inl (by simp))).alloc (.cells #[.int .i64 x.kind, .int .i64 x.at_, .int .i64 x.h.cl, .int .i64 x.h.tag, .bool x.h.cons, .int .i64 x.h.len, .int .u8 x.b] 67)
  first
    | exact ⟨rfl, k1, _, ⟨blk_alloc (blk_set HB.out 0 _) _, hg⟩, fun st' e => by injection e with e; subst e; exact ⟨_, _, rfl, rfl⟩⟩
    | exact ⟨rfl, ((Kp.refl B [111] w).alloc _).setCell (blk_alloc HB.out _) hg (.inl (by simp)), _, ⟨blk_set (blk_alloc HB.out _) 0 _, hg⟩, fun st' e => by injection e with e; subst e; exact ⟨_, _, rfl, rfl⟩⟩
set_option maxRecDepth 100000 in
set_option maxHeartbeats 2000000 in
theorem look_start (w : World) (B g : Nat) (F0 : FuncId) (caps0 : Array Value) (st : CSt) (x : Ev) (h : IsChk w B g (.func (.func F0) #[] caps0) false) (hB : B ≤ w.heap.size) (hk : x.kind = 2) (hc : x.h.cl = 0) :
    Calls Try.prog 70 #[.pointer (some ⟨g, 0, none⟩), evArg x] w (LookPost w B g (vLook st x)) := by
  have k3 : (x.kind == 3) = false := by rw [hk]; rfl
  have k1 : (x.kind == 1) = false := by rw [hk]; rfl
  have k2 : (x.kind == 2) = true := by rw [hk]; rfl
  have t0 : (x.h.cl == 0) = true := by rw [hc]; rfl
  have e1 : vLook st x = cStart x.h.tag x.h.len := by
    unfold vLook
    rw [if_neg (by omega), if_neg (by omega), if_pos ⟨hk, hc⟩]
  rw [e1]
  obtain ⟨hb, hg⟩ := h
  have h0 := blk_cell hb 0
  have z0 := blk_frozen hb 0
  simp only [List.getElem?_toArray, List.getElem?_cons_zero, List.getElem?_cons_succ] at h0
  have hgl := blk_lt hb
  have HB := Lib.hid hb
  have ct := fun W => start_any W x.h.cl x.h.tag x.h.cons x.h.len
  generalize cStart x.h.tag x.h.len = r at ct ⊢
  have CT := Lib.hid ct
  unfold evArg
  clear e1 hb hk hc ct
  go_enter Try.func70, Try.ntmps70
  go_wp2_with fail
  refine (CT.out _).mono ?_
  rintro e w1 ⟨ha, hb, hb1⟩
  have bx := (Below.refl w.heap.size w).alloc (Nat.le_refl _) (.cells #[.int .i64 x.kind, .int .i64 x.at_, .int .i64 x.h.cl, .int .i64 x.h.tag, .bool x.h.cons, .int .i64 x.h.len, .int .u8 x.b] 67)
  have hb2 := (hb1.block g (by simp; omega)).trans (blk_alloc HB.out _)
  have f0 := blk_cell hb2 0
  have z1 := blk_frozen hb2 0
  simp only [List.getElem?_toArray, List.getElem?_cons_zero, List.getElem?_cons_succ] at f0
  have HB2 := Lib.hid hb2
  have KP := Lib.hid ((Kp.of_below (B := B) (ts := [111]) bx hB).trans (Kp.of_below hb1 (Nat.le_trans hB bx.size)))
  cases r with
  | none =>
    obtain rfl := ha rfl
    clear ha hb hb1 hb2 bx
    go_wp2_with fail
    go_ret
    exact ⟨rfl, KP.out.setCell HB2.out hg (.inl (by simp)), _, ⟨blk_set HB2.out 0 _, hg⟩, (fun st h => by cases h)⟩
  | some st2 =>
    obtain ⟨F', caps', rfl, hv'⟩ := hb _ rfl
    have HV' := Lib.hid hv'
    clear ha hb hb1 hb2 bx hv'
    go_wp2_with fail
    go_ret
    have k2 := (Kp.refl B [111] w1).setCell (i := 0) (u := .func (.func F') #[] caps') HB2.out hg (.inl (by simp))
    refine ⟨rfl, KP.out.setCell HB2.out hg (.inl (by simp)), _, ⟨blk_set HB2.out 0 _, hg⟩, fun st' h => ?_⟩
    injection h with h
    subst h
    exact ⟨F', caps', rfl, HV'.out.kp k2 (fun t ht => chk_not ht)⟩
end Go.Proofs.Ytkabmmpccfeffaa
