/- Layer 9 (event.Machine): begin. -/
import Derived.Test.YtkabmmpccfeffaaVMach2
import Derived.Outline
import Derived.StillTailTactics
namespace Go.Proofs.Ytkabmmpccfeffaa
open Go.RowKit
set_option linter.unusedVariables false
set_option linter.unusedSimpArgs false

/-- The world under a name. -/
theorem wp_name {P : Program} {c : Code} {Q : Exit → Act → World → Prop} {a : Act} {w : World} (h : ∀ W, Hid (W = w) → Code.wp P c Q a W) : Code.wp P c Q a w := h w (Lib.hid rfl)
theorem below_drewN {B : Nat} {w w1 : World} (h : Below B w w1) (n : Nat) : Below B w (w1.drewN n) := ⟨h.os, h.tape, h.output, h.size, h.block⟩
theorem sdepth_q {w W : World} {B g most : Nat} {ls : List Int} (h : IsStack w B g most ls) (k : Below w.heap.size w W) (n : Nat) :
    Calls Try.prog 112 #[.pointer (some ⟨g, 0, none⟩)] (W.drewN n) fun e w'' => e = .returned (.int .i64 ls.length) ∧ ∃ m, w'' = W.drewN m := by
  have h0 : IsStack W B g most ls := h.below k
  have h1 : IsStack (W.drewN n) B g most ls := h0
  exact Calls.quiet_of_same (sdepth_any h1)
theorem sleft_q {w W : World} {B g most : Nat} {ls : List Int} (h : IsStack w B g most ls) (k : Below w.heap.size w W) (n : Nat) :
    Calls Try.prog 178 #[.pointer (some ⟨g, 0, none⟩)] (W.drewN n) fun e w'' => e = .returned (.int .i64 (stLeft ls)) ∧ ∃ m, w'' = W.drewN m := by
  have h0 : IsStack W B g most ls := h.below k
  have h1 : IsStack (W.drewN n) B g most ls := h0
  exact Calls.quiet_of (sleft_any h1)

/-- What begin brings about: error, events, what is left of each, what of a leaf is to come. -/
def mBegin (most : Nat) (lefts : List Int) (leaf at_ : Int) (h : Hd) : Int × List Ev × List Int × Int :=
  if lefts ≠ [] ∧ stLeft lefts < h.len then (5, [], lefts, leaf)
  else if h.cons = true then
    if (stEnter most h.len lefts).1 = 0 then (0, [⟨1, at_, h, 0⟩], (stEnter most h.len lefts).2, leaf) else ((stEnter most h.len lefts).1, [], lefts, leaf)
  else (0, ⟨2, at_, h, 0⟩ :: (if h.len = 0 then [⟨4, at_, Hd.zero, 0⟩] else []), lefts, h.len)
def BeginPost (w : World) (B gm go gh : Nat) (vr : Value) (most : Nat) (cr : List Int) (at_ : Int) (r : Int × List Ev × List Int × Int) (e : Ending) (w' : World) : Prop :=
  Kp B mT w w' ∧ (r.1 ≠ 0 → e = .returned (.tuple #[.slice none 0 0, .int .i64 r.1]) ∧ HasM w' gm) ∧
  (r.1 = 0 → ∃ v vm', e = .returned (.tuple #[v, .int .i64 0]) ∧ EvRow w' w.heap.size v r.2.1 ∧ IsM w' B gm go gh vr vm' most r.2.2.1 r.2.2.2 [] cr true at_)

section
variable {w : World} {B gm go gh : Nat} {vr vm : Value} {most : Nat} {lefts : List Int} {leaf : Int} {cm cr : List Int} {begun : Bool} {at_ : Int}
set_option maxRecDepth 100000 in
set_option maxHeartbeats 1000000 in
theorem mbegin_fit (h : IsM w B gm go gh vr vm most lefts leaf cm cr begun at_) (hh : Hd) (x : Int) (r : List Int) (hl : lefts = x :: r) (hx : x < hh.len) :
    Calls Try.prog 152 #[.pointer (some ⟨gm, 0, none⟩), .agg #[.int .i64 hh.cl, .int .i64 hh.tag, .bool hh.cons, .int .i64 hh.len]] w fun e w' => e = .returned (.tuple #[.slice none 0 0, .int .i64 5]) ∧ Below w.heap.size w w' := by
  subst hl
  have h0 := blk_cell h.blk 0
  have sd := fun n => sdepth_q h.stk ((Below.refl w.heap.size w).alloc (Nat.le_refl _) (.cells #[.int .i64 hh.cl, .int .i64 hh.tag, .bool hh.cons, .int .i64 hh.len] 65)) n
  have sl := fun n => sleft_q h.stk ((Below.refl w.heap.size w).alloc (Nat.le_refl _) (.cells #[.int .i64 hh.cl, .int .i64 hh.tag, .bool hh.cons, .int .i64 hh.len] 65)) n
  have hgl := h.lt.1
  have q1 : decide ((0 : Int) < ((x :: r).length : Int)) = true := by simp
  have q2 : decide (stLeft (x :: r) < hh.len) = true := decide_eq_true hx
  simp only [List.getElem?_toArray, List.getElem?_cons_zero, List.getElem?_cons_succ] at h0
  have SD := Lib.hid sd
  have SL := Lib.hid sl
  clear sd sl h hx
  go_enter Try.func152, Try.ntmps152
  go_wp2_with fail
  go_quiet (first | (go_at_call 112; exact SD.out _) | (go_at_call 178; exact SL.out _))
  go_wp2_with fail
  go_ret2
  exact ⟨rfl, below_drewN ((Below.refl _ _).alloc (Nat.le_refl _) _) _⟩

set_option maxRecDepth 100000 in
set_option maxHeartbeats 2000000 in
theorem mbegin_deep (h : IsM w B gm go gh vr vm most lefts leaf cm cr begun at_) (hB : B ≤ w.heap.size) (hh : Hd) (hl : lefts = [] ∨ hh.len ≤ stLeft lefts) (h0l : 0 ≤ hh.len) (h1l : hh.len ≤ 2305843009213693951) (hc : hh.cons = true) (he : ¬ (stEnter most hh.len lefts).1 = 0) :
    Calls Try.prog 152 #[.pointer (some ⟨gm, 0, none⟩), .agg #[.int .i64 hh.cl, .int .i64 hh.tag, .bool hh.cons, .int .i64 hh.len]] w (BeginPost w B gm go gh vr most cr at_ (mBegin most lefts leaf at_ hh)) := by
  have h0 := blk_cell h.blk 0
  have h2 := blk_cell h.blk 2
  have z2 := blk_frozen h.blk 2
  have h3 := blk_cell h.blk 3
  have z3 := blk_frozen h.blk 3
  have h5 := blk_cell h.blk 5
  have z5 := blk_frozen h.blk 5
  obtain ⟨A, c, rfl⟩ := own_slice h.row
  have sd := fun n => sdepth_q h.stk ((Below.refl w.heap.size w).alloc (Nat.le_refl _) (.cells #[.int .i64 hh.cl, .int .i64 hh.tag, .bool true, .int .i64 hh.len] 65)) n
  have sl := fun n => sleft_q h.stk ((Below.refl w.heap.size w).alloc (Nat.le_refl _) (.cells #[.int .i64 hh.cl, .int .i64 hh.tag, .bool true, .int .i64 hh.len] 65)) n
  have hgl := h.lt.1
  simp only [List.getElem?_toArray, List.getElem?_cons_zero, List.getElem?_cons_succ] at h0 h2 h3 h5
  have SL := Lib.hid sl
  have SD := Lib.hid sd
  have HH := Lib.hid h
  have FIT := Lib.hid hl
  have fin : mBegin most lefts leaf at_ hh = if hh.cons = true then
    if (stEnter most hh.len lefts).1 = 0 then (0, [⟨1, at_, hh, 0⟩], (stEnter most hh.len lefts).2, leaf) else ((stEnter most hh.len lefts).1, [], lefts, leaf)
    else (0, ⟨2, at_, hh, 0⟩ :: (if hh.len = 0 then [⟨4, at_, Hd.zero, 0⟩] else []), lefts, hh.len) := by
    unfold mBegin
    rw [if_neg]
    rintro ⟨q1, q2⟩
    have := hl.resolve_left q1
    omega
  rw [fin, hc]
  have HCC := Lib.hid hc
  have sen := fun (W : World) (k : IsStack W B go most lefts) => senter_any k hh.len h0l h1l
  have NGO := Lib.hid (show ¬ w.heap.size = go from fun e => by have := h.lt; omega)
  generalize stEnter most hh.len lefts = en at sen he ⊢
  obtain ⟨er, ls'⟩ := en
  simp only [if_true] at he ⊢ sen
  have he1 : (er != 0) = true := bne_iff_ne.2 he
  have he2 : (er == 0) = false := beq_eq_false_iff_ne.2 he
  simp only [if_neg he]
  have SEN := Lib.hid sen
  clear sen
  clear sd sl h hl hc fin he
  cases lefts with
  | nil =>
    clear FIT
    go_enter Try.func152, Try.ntmps152
    go_wp2_with fail
    go_quiet ((go_at_call 112; exact SD.out _))
    go_wp2_with fail
    refine wp_name fun W1 HW1 => ?_
    have im1 : IsM W1 B gm go gh vr (.slice A 0 c) most [] leaf [] cr begun at_ := by
      rw [HW1.out]
      have k := HH.out.below ((Below.refl w.heap.size w).alloc (Nat.le_refl _) (.cells #[.int .i64 hh.cl, .int .i64 hh.tag, .bool true, .int .i64 hh.len] 65))
      have k1 := fun n => (k.drewN n).came (cm' := []) (Fr.refl _ _) (vm' := .slice A 0 c) (.inl (by cases A <;> rfl)) (own_zero k.row)
      exact k1 _
    have bx1 : W1.heap[w.heap.size]? = some (.cells #[.int .i64 hh.cl, .int .i64 hh.tag, .bool true, .int .i64 hh.len] 65 (0, 0)) := by
      rw [HW1.out]
      exact blk_far (heap_alloc_new w _) (by simp; omega) _
    have fr1 : Fr (fun k => k = gm ∨ k = go ∨ k = gh ∨ some k = vr.ownBlock ∨ some k = (Value.slice A cm.length c).ownBlock) w W1 := by
      rw [HW1.out]
      exact (((Fr.refl _ w).alloc _).drewN _).setCell (fun _ => .inl rfl) _
    have f0 := blk_cell im1.blk 0
    have f3 := blk_cell im1.blk 3
    have f4 := blk_cell im1.blk 4
    have f5 := blk_cell im1.blk 5
    clear z5 z3 z2 h0 h2 h3 h5
    have z5 := blk_frozen im1.blk 5
    obtain ⟨b0, b1, b2, b3, b4, b5, b6, b7⟩ := blk4 bx1
    have hg1 := im1.lt.1
    have hs1 : w.heap.size < W1.heap.size := blk_lt bx1
    simp only [List.getElem?_toArray, List.getElem?_cons_zero, List.getElem?_cons_succ] at f0 f3 f4 f5
    have IM1 := Lib.hid im1
    have BX1 := Lib.hid bx1
    have FR1 := Lib.hid fr1
    clear im1 bx1 fr1
    go_still_tail 6, (by kernel_rfl)
    go_wp2_with fail
    refine (SEN.out _ IM1.out.drew.stk).mono ?_
    rintro e w2 ⟨rfl, hs2, fr2⟩
    clear f0 f3 f4 f5 z5 b0 b1 b2 b3 b4 b5 b6 b7 hg1 hs1
    have im2 := IM1.out.drew.stack fr2 hs2
    have bx2 := fr2.blk (show W1.drew.heap[w.heap.size]? = _ from BX1.out) NGO.out
    have fr2' := FR1.out.drew.trans fr2 (fun i _ e => .inr (.inl e))
    have FR2 := Lib.hid fr2'
    have IM2 := Lib.hid im2
    have BX2 := Lib.hid bx2
    have f0 := blk_cell im2.blk 0
    have f4 := blk_cell im2.blk 4
    have f5 := blk_cell im2.blk 5
    have z5 := blk_frozen im2.blk 5
    obtain ⟨b0, b1, b2, b3, b4, b5, b6, b7⟩ := blk4 bx2
    have hg2 := im2.lt.1
    have hs2 : w.heap.size < w2.heap.size := blk_lt bx2
    simp only [List.getElem?_toArray, List.getElem?_cons_zero, List.getElem?_cons_succ] at f0 f4 f5
    clear im2 bx2 fr2' fr2
    go_wp2_with fail
    go_ret2
    exact ⟨HH.out.kp FR2.out (fun i _ h => h), fun _ => ⟨rfl, IM2.out.has⟩, fun e => absurd e (by simpa using he1)⟩
  | cons x r =>
    have q1 : decide ((0 : Int) < ((x :: r).length : Int)) = true := by simp
    have q2 : decide (stLeft (x :: r) < hh.len) = false := decide_eq_false (by have := FIT.out.resolve_left (by simp); omega)
    clear FIT
    go_enter Try.func152, Try.ntmps152
    go_wp2_with fail
    go_quiet (first | (go_at_call 112; exact SD.out _) | (go_at_call 178; exact SL.out _))
    go_wp2_with fail
    refine wp_name fun W1 HW1 => ?_
    have im1 : IsM W1 B gm go gh vr (.slice A 0 c) most (x :: r) leaf [] cr begun at_ := by
      rw [HW1.out]
      have k := HH.out.below ((Below.refl w.heap.size w).alloc (Nat.le_refl _) (.cells #[.int .i64 hh.cl, .int .i64 hh.tag, .bool true, .int .i64 hh.len] 65))
      have k1 := fun n => (k.drewN n).came (cm' := []) (Fr.refl _ _) (vm' := .slice A 0 c) (.inl (by cases A <;> rfl)) (own_zero k.row)
      exact k1 _
    have bx1 : W1.heap[w.heap.size]? = some (.cells #[.int .i64 hh.cl, .int .i64 hh.tag, .bool true, .int .i64 hh.len] 65 (0, 0)) := by
      rw [HW1.out]
      exact blk_far (heap_alloc_new w _) (by simp; omega) _
    have fr1 : Fr (fun k => k = gm ∨ k = go ∨ k = gh ∨ some k = vr.ownBlock ∨ some k = (Value.slice A cm.length c).ownBlock) w W1 := by
      rw [HW1.out]
      exact (((Fr.refl _ w).alloc _).drewN _).setCell (fun _ => .inl rfl) _
    have f0 := blk_cell im1.blk 0
    have f3 := blk_cell im1.blk 3
    have f4 := blk_cell im1.blk 4
    have f5 := blk_cell im1.blk 5
    clear z5 z3 z2 h0 h2 h3 h5
    have z5 := blk_frozen im1.blk 5
    obtain ⟨b0, b1, b2, b3, b4, b5, b6, b7⟩ := blk4 bx1
    have hg1 := im1.lt.1
    have hs1 : w.heap.size < W1.heap.size := blk_lt bx1
    simp only [List.getElem?_toArray, List.getElem?_cons_zero, List.getElem?_cons_succ] at f0 f3 f4 f5
    have IM1 := Lib.hid im1
    have BX1 := Lib.hid bx1
    have FR1 := Lib.hid fr1
    clear im1 bx1 fr1
    go_still_tail 6, (by kernel_rfl)
    go_wp2_with fail
    refine (SEN.out _ IM1.out.drew.stk).mono ?_
    rintro e w2 ⟨rfl, hs2, fr2⟩
    clear f0 f3 f4 f5 z5 b0 b1 b2 b3 b4 b5 b6 b7 hg1 hs1
    have im2 := IM1.out.drew.stack fr2 hs2
    have bx2 := fr2.blk (show W1.drew.heap[w.heap.size]? = _ from BX1.out) NGO.out
    have fr2' := FR1.out.drew.trans fr2 (fun i _ e => .inr (.inl e))
    have FR2 := Lib.hid fr2'
    have IM2 := Lib.hid im2
    have BX2 := Lib.hid bx2
    have f0 := blk_cell im2.blk 0
    have f4 := blk_cell im2.blk 4
    have f5 := blk_cell im2.blk 5
    have z5 := blk_frozen im2.blk 5
    obtain ⟨b0, b1, b2, b3, b4, b5, b6, b7⟩ := blk4 bx2
    have hg2 := im2.lt.1
    have hs2 : w.heap.size < w2.heap.size := blk_lt bx2
    simp only [List.getElem?_toArray, List.getElem?_cons_zero, List.getElem?_cons_succ] at f0 f4 f5
    clear im2 bx2 fr2' fr2
    go_wp2_with fail
    go_ret2
    exact ⟨HH.out.kp FR2.out (fun i _ h => h), fun _ => ⟨rfl, IM2.out.has⟩, fun e => absurd e (by simpa using he1)⟩

set_option maxRecDepth 100000 in
set_option maxHeartbeats 2000000 in
theorem mbegin_enter (h : IsM w B gm go gh vr vm most lefts leaf cm cr begun at_) (hB : B ≤ w.heap.size) (hh : Hd) (hl : lefts = [] ∨ hh.len ≤ stLeft lefts) (h0l : 0 ≤ hh.len) (h1l : hh.len ≤ 2305843009213693951) (hc : hh.cons = true) (he : (stEnter most hh.len lefts).1 = 0) :
    Calls Try.prog 152 #[.pointer (some ⟨gm, 0, none⟩), .agg #[.int .i64 hh.cl, .int .i64 hh.tag, .bool hh.cons, .int .i64 hh.len]] w (BeginPost w B gm go gh vr most cr at_ (mBegin most lefts leaf at_ hh)) := by
  have h0 := blk_cell h.blk 0
  have h2 := blk_cell h.blk 2
  have z2 := blk_frozen h.blk 2
  have h3 := blk_cell h.blk 3
  have z3 := blk_frozen h.blk 3
  have h5 := blk_cell h.blk 5
  have z5 := blk_frozen h.blk 5
  obtain ⟨A, c, rfl⟩ := own_slice h.row
  have sd := fun n => sdepth_q h.stk ((Below.refl w.heap.size w).alloc (Nat.le_refl _) (.cells #[.int .i64 hh.cl, .int .i64 hh.tag, .bool true, .int .i64 hh.len] 65)) n
  have sl := fun n => sleft_q h.stk ((Below.refl w.heap.size w).alloc (Nat.le_refl _) (.cells #[.int .i64 hh.cl, .int .i64 hh.tag, .bool true, .int .i64 hh.len] 65)) n
  have hgl := h.lt.1
  simp only [List.getElem?_toArray, List.getElem?_cons_zero, List.getElem?_cons_succ] at h0 h2 h3 h5
  have SL := Lib.hid sl
  have SD := Lib.hid sd
  have HH := Lib.hid h
  have FIT := Lib.hid hl
  have fin : mBegin most lefts leaf at_ hh = if hh.cons = true then
    if (stEnter most hh.len lefts).1 = 0 then (0, [⟨1, at_, hh, 0⟩], (stEnter most hh.len lefts).2, leaf) else ((stEnter most hh.len lefts).1, [], lefts, leaf)
    else (0, ⟨2, at_, hh, 0⟩ :: (if hh.len = 0 then [⟨4, at_, Hd.zero, 0⟩] else []), lefts, hh.len) := by
    unfold mBegin
    rw [if_neg]
    rintro ⟨q1, q2⟩
    have := hl.resolve_left q1
    omega
  rw [fin, hc]
  have HCC := Lib.hid hc
  have sen := fun (W : World) (k : IsStack W B go most lefts) => senter_any k hh.len h0l h1l
  have NGO := Lib.hid (show ¬ w.heap.size = go from fun e => by have := h.lt; omega)
  generalize stEnter most hh.len lefts = en at sen he ⊢
  obtain ⟨er, ls'⟩ := en
  simp only [if_true] at he ⊢ sen
  subst he
  simp only [if_true]
  have SEN := Lib.hid sen
  clear sen
  clear sd sl h hl hc fin
  cases lefts with
  | nil =>
    clear FIT
    go_enter Try.func152, Try.ntmps152
    go_wp2_with fail
    go_quiet ((go_at_call 112; exact SD.out _))
    go_wp2_with fail
    refine wp_name fun W1 HW1 => ?_
    have im1 : IsM W1 B gm go gh vr (.slice A 0 c) most [] leaf [] cr begun at_ := by
      rw [HW1.out]
      have k := HH.out.below ((Below.refl w.heap.size w).alloc (Nat.le_refl _) (.cells #[.int .i64 hh.cl, .int .i64 hh.tag, .bool true, .int .i64 hh.len] 65))
      have k1 := fun n => (k.drewN n).came (cm' := []) (Fr.refl _ _) (vm' := .slice A 0 c) (.inl (by cases A <;> rfl)) (own_zero k.row)
      exact k1 _
    have bx1 : W1.heap[w.heap.size]? = some (.cells #[.int .i64 hh.cl, .int .i64 hh.tag, .bool true, .int .i64 hh.len] 65 (0, 0)) := by
      rw [HW1.out]
      exact blk_far (heap_alloc_new w _) (by simp; omega) _
    have fr1 : Fr (fun k => k = gm ∨ k = go ∨ k = gh ∨ some k = vr.ownBlock ∨ some k = (Value.slice A cm.length c).ownBlock) w W1 := by
      rw [HW1.out]
      exact (((Fr.refl _ w).alloc _).drewN _).setCell (fun _ => .inl rfl) _
    have f0 := blk_cell im1.blk 0
    have f3 := blk_cell im1.blk 3
    have f4 := blk_cell im1.blk 4
    have f5 := blk_cell im1.blk 5
    clear z5 z3 z2 h0 h2 h3 h5
    have z5 := blk_frozen im1.blk 5
    obtain ⟨b0, b1, b2, b3, b4, b5, b6, b7⟩ := blk4 bx1
    have hg1 := im1.lt.1
    have hs1 : w.heap.size < W1.heap.size := blk_lt bx1
    simp only [List.getElem?_toArray, List.getElem?_cons_zero, List.getElem?_cons_succ] at f0 f3 f4 f5
    have IM1 := Lib.hid im1
    have BX1 := Lib.hid bx1
    have FR1 := Lib.hid fr1
    clear im1 bx1 fr1
    go_still_tail 6, (by kernel_rfl)
    go_wp2_with fail
    refine (SEN.out _ IM1.out.drew.stk).mono ?_
    rintro e w2 ⟨rfl, hs2, fr2⟩
    clear f0 f3 f4 f5 z5 b0 b1 b2 b3 b4 b5 b6 b7 hg1 hs1
    have im2 := IM1.out.drew.stack fr2 hs2
    have bx2 := fr2.blk (show W1.drew.heap[w.heap.size]? = _ from BX1.out) NGO.out
    have fr2' := FR1.out.drew.trans fr2 (fun i _ e => .inr (.inl e))
    have FR2 := Lib.hid fr2'
    have IM2 := Lib.hid im2
    have BX2 := Lib.hid bx2
    have f0 := blk_cell im2.blk 0
    have f4 := blk_cell im2.blk 4
    have f5 := blk_cell im2.blk 5
    have z5 := blk_frozen im2.blk 5
    obtain ⟨b0, b1, b2, b3, b4, b5, b6, b7⟩ := blk4 bx2
    have hg2 := im2.lt.1
    have hs2 : w.heap.size < w2.heap.size := blk_lt bx2
    simp only [List.getElem?_toArray, List.getElem?_cons_zero, List.getElem?_cons_succ] at f0 f4 f5
    clear im2 bx2 fr2' fr2
    go_wp2_with fail
    refine wp_name fun W3 HW3 => ?_
    have im3 := IM2.out.begun_ true
    rw [← HW3.out] at im3
    have bx3 : W3.heap[w.heap.size]? = some (.cells #[.int .i64 hh.cl, .int .i64 hh.tag, .bool true, .int .i64 hh.len] 65 (0, 0)) := by
      rw [HW3.out]
      exact blk_far BX2.out (by simp; omega) _
    have fr3 := FR2.out.setCell (p := ⟨gm, 5, none⟩) (fun _ => .inl rfl) (.bool true)
    rw [← HW3.out] at fr3
    clear f0 f4 f5 z5 b0 b1 b2 b3 b4 b5 b6 b7 hg2 hs2
    have f4 := blk_cell im3.blk 4
    obtain ⟨b0, b1, b2, b3, b4, b5, b6, b7⟩ := blk4 bx3
    have hg3 := im3.lt.1
    have hs3 : w.heap.size < W3.heap.size := blk_lt bx3
    simp only [List.getElem?_toArray, List.getElem?_cons_zero, List.getElem?_cons_succ] at f4
    have IM3 := Lib.hid im3
    have BX3 := Lib.hid bx3
    have FR3 := Lib.hid fr3
    clear im3 bx3 fr3
    go_still_tail 6, (by kernel_rfl)
    go_wp2_with fail
    go_ret2
    exact ⟨HH.out.kp ((FR3.out.alloc _).drew) (fun i _ h => h), fun h => absurd rfl h, fun _ => ⟨_, _, rfl, evRow_one (x := ⟨1, at_, hh, 0⟩) (by rw [HCC.out]; exact heap_alloc_new W3 _) FR3.out.size, (IM3.out.below ((Below.refl _ _).alloc (Nat.le_refl _) _)).drew⟩⟩
  | cons x r =>
    have q1 : decide ((0 : Int) < ((x :: r).length : Int)) = true := by simp
    have q2 : decide (stLeft (x :: r) < hh.len) = false := decide_eq_false (by have := FIT.out.resolve_left (by simp); omega)
    clear FIT
    go_enter Try.func152, Try.ntmps152
    go_wp2_with fail
    go_quiet (first | (go_at_call 112; exact SD.out _) | (go_at_call 178; exact SL.out _))
    go_wp2_with fail
    refine wp_name fun W1 HW1 => ?_
    have im1 : IsM W1 B gm go gh vr (.slice A 0 c) most (x :: r) leaf [] cr begun at_ := by
      rw [HW1.out]
      have k := HH.out.below ((Below.refl w.heap.size w).alloc (Nat.le_refl _) (.cells #[.int .i64 hh.cl, .int .i64 hh.tag, .bool true, .int .i64 hh.len] 65))
      have k1 := fun n => (k.drewN n).came (cm' := []) (Fr.refl _ _) (vm' := .slice A 0 c) (.inl (by cases A <;> rfl)) (own_zero k.row)
      exact k1 _
    have bx1 : W1.heap[w.heap.size]? = some (.cells #[.int .i64 hh.cl, .int .i64 hh.tag, .bool true, .int .i64 hh.len] 65 (0, 0)) := by
      rw [HW1.out]
      exact blk_far (heap_alloc_new w _) (by simp; omega) _
    have fr1 : Fr (fun k => k = gm ∨ k = go ∨ k = gh ∨ some k = vr.ownBlock ∨ some k = (Value.slice A cm.length c).ownBlock) w W1 := by
      rw [HW1.out]
      exact (((Fr.refl _ w).alloc _).drewN _).setCell (fun _ => .inl rfl) _
    have f0 := blk_cell im1.blk 0
    have f3 := blk_cell im1.blk 3
    have f4 := blk_cell im1.blk 4
    have f5 := blk_cell im1.blk 5
    clear z5 z3 z2 h0 h2 h3 h5
    have z5 := blk_frozen im1.blk 5
    obtain ⟨b0, b1, b2, b3, b4, b5, b6, b7⟩ := blk4 bx1
    have hg1 := im1.lt.1
    have hs1 : w.heap.size < W1.heap.size := blk_lt bx1
    simp only [List.getElem?_toArray, List.getElem?_cons_zero, List.getElem?_cons_succ] at f0 f3 f4 f5
    have IM1 := Lib.hid im1
    have BX1 := Lib.hid bx1
    have FR1 := Lib.hid fr1
    clear im1 bx1 fr1
    go_still_tail 6, (by kernel_rfl)
    go_wp2_with fail
    refine (SEN.out _ IM1.out.drew.stk).mono ?_
    rintro e w2 ⟨rfl, hs2, fr2⟩
    clear f0 f3 f4 f5 z5 b0 b1 b2 b3 b4 b5 b6 b7 hg1 hs1
    have im2 := IM1.out.drew.stack fr2 hs2
    have bx2 := fr2.blk (show W1.drew.heap[w.heap.size]? = _ from BX1.out) NGO.out
    have fr2' := FR1.out.drew.trans fr2 (fun i _ e => .inr (.inl e))
    have FR2 := Lib.hid fr2'
    have IM2 := Lib.hid im2
    have BX2 := Lib.hid bx2
    have f0 := blk_cell im2.blk 0
    have f4 := blk_cell im2.blk 4
    have f5 := blk_cell im2.blk 5
    have z5 := blk_frozen im2.blk 5
    obtain ⟨b0, b1, b2, b3, b4, b5, b6, b7⟩ := blk4 bx2
    have hg2 := im2.lt.1
    have hs2 : w.heap.size < w2.heap.size := blk_lt bx2
    simp only [List.getElem?_toArray, List.getElem?_cons_zero, List.getElem?_cons_succ] at f0 f4 f5
    clear im2 bx2 fr2' fr2
    go_wp2_with fail
    refine wp_name fun W3 HW3 => ?_
    have im3 := IM2.out.begun_ true
    rw [← HW3.out] at im3
    have bx3 : W3.heap[w.heap.size]? = some (.cells #[.int .i64 hh.cl, .int .i64 hh.tag, .bool true, .int .i64 hh.len] 65 (0, 0)) := by
      rw [HW3.out]
      exact blk_far BX2.out (by simp; omega) _
    have fr3 := FR2.out.setCell (p := ⟨gm, 5, none⟩) (fun _ => .inl rfl) (.bool true)
    rw [← HW3.out] at fr3
    clear f0 f4 f5 z5 b0 b1 b2 b3 b4 b5 b6 b7 hg2 hs2
    have f4 := blk_cell im3.blk 4
    obtain ⟨b0, b1, b2, b3, b4, b5, b6, b7⟩ := blk4 bx3
    have hg3 := im3.lt.1
    have hs3 : w.heap.size < W3.heap.size := blk_lt bx3
    simp only [List.getElem?_toArray, List.getElem?_cons_zero, List.getElem?_cons_succ] at f4
    have IM3 := Lib.hid im3
    have BX3 := Lib.hid bx3
    have FR3 := Lib.hid fr3
    clear im3 bx3 fr3
    go_still_tail 6, (by kernel_rfl)
    go_wp2_with fail
    go_ret2
    exact ⟨HH.out.kp ((FR3.out.alloc _).drew) (fun i _ h => h), fun h => absurd rfl h, fun _ => ⟨_, _, rfl, evRow_one (x := ⟨1, at_, hh, 0⟩) (by rw [HCC.out]; exact heap_alloc_new W3 _) FR3.out.size, (IM3.out.below ((Below.refl _ _).alloc (Nat.le_refl _) _)).drew⟩⟩

set_option maxRecDepth 100000 in
set_option maxHeartbeats 2000000 in
theorem mbegin_zero (h : IsM w B gm go gh vr vm most lefts leaf cm cr begun at_) (hB : B ≤ w.heap.size) (hh : Hd) (hl : lefts = [] ∨ hh.len ≤ stLeft lefts) (h0l : 0 ≤ hh.len) (h1l : hh.len ≤ 2305843009213693951) (hc : hh.cons = false) (hn : hh.len = 0) :
    Calls Try.prog 152 #[.pointer (some ⟨gm, 0, none⟩), .agg #[.int .i64 hh.cl, .int .i64 hh.tag, .bool hh.cons, .int .i64 hh.len]] w (BeginPost w B gm go gh vr most cr at_ (mBegin most lefts leaf at_ hh)) := by
  have h0 := blk_cell h.blk 0
  have h2 := blk_cell h.blk 2
  have z2 := blk_frozen h.blk 2
  have h3 := blk_cell h.blk 3
  have z3 := blk_frozen h.blk 3
  have h5 := blk_cell h.blk 5
  have z5 := blk_frozen h.blk 5
  obtain ⟨A, c, rfl⟩ := own_slice h.row
  have sd := fun n => sdepth_q h.stk ((Below.refl w.heap.size w).alloc (Nat.le_refl _) (.cells #[.int .i64 hh.cl, .int .i64 hh.tag, .bool false, .int .i64 hh.len] 65)) n
  have sl := fun n => sleft_q h.stk ((Below.refl w.heap.size w).alloc (Nat.le_refl _) (.cells #[.int .i64 hh.cl, .int .i64 hh.tag, .bool false, .int .i64 hh.len] 65)) n
  have hgl := h.lt.1
  simp only [List.getElem?_toArray, List.getElem?_cons_zero, List.getElem?_cons_succ] at h0 h2 h3 h5
  have SL := Lib.hid sl
  have SD := Lib.hid sd
  have HH := Lib.hid h
  have FIT := Lib.hid hl
  have fin : mBegin most lefts leaf at_ hh = if hh.cons = true then
    if (stEnter most hh.len lefts).1 = 0 then (0, [⟨1, at_, hh, 0⟩], (stEnter most hh.len lefts).2, leaf) else ((stEnter most hh.len lefts).1, [], lefts, leaf)
    else (0, ⟨2, at_, hh, 0⟩ :: (if hh.len = 0 then [⟨4, at_, Hd.zero, 0⟩] else []), lefts, hh.len) := by
    unfold mBegin
    rw [if_neg]
    rintro ⟨q1, q2⟩
    have := hl.resolve_left q1
    omega
  rw [fin, hc]
  have HCC := Lib.hid hc
  simp only [Bool.false_eq_true, if_false]
  rw [if_pos hn]
  have hn1 : (hh.len == 0) = true := beq_iff_eq.2 hn
  have HN := Lib.hid hn
  clear hn
  clear sd sl h hl hc fin
  cases lefts with
  | nil =>
    clear FIT
    go_enter Try.func152, Try.ntmps152
    go_wp2_with fail
    go_quiet ((go_at_call 112; exact SD.out _))
    go_wp2_with fail
    refine wp_name fun W1 HW1 => ?_
    have im1 : IsM W1 B gm go gh vr (.slice A 0 c) most [] hh.len [] cr true at_ := by
      rw [HW1.out]
      have k := HH.out.below ((Below.refl w.heap.size w).alloc (Nat.le_refl _) (.cells #[.int .i64 hh.cl, .int .i64 hh.tag, .bool false, .int .i64 hh.len] 65))
      have k1 := fun n => (k.drewN n).came (cm' := []) (Fr.refl _ _) (vm' := .slice A 0 c) (.inl (by cases A <;> rfl)) (own_zero k.row)
      exact ((k1 _).begun_ true).leaf_ hh.len
    have bx1 : W1.heap[w.heap.size]? = some (.cells #[.int .i64 hh.cl, .int .i64 hh.tag, .bool false, .int .i64 hh.len] 65 (0, 0)) := by
      rw [HW1.out]
      exact blk_far (blk_far (blk_far (heap_alloc_new w _) (by simp; omega) _) (by simp; omega) _) (by simp; omega) _
    have fr1 : Fr (fun k => k = gm ∨ k = go ∨ k = gh ∨ some k = vr.ownBlock ∨ some k = (Value.slice A cm.length c).ownBlock) w W1 := by
      rw [HW1.out]
      exact (((((Fr.refl _ w).alloc _).drewN _).setCell (fun _ => .inl rfl) _).setCell (fun _ => .inl rfl) _).setCell (fun _ => .inl rfl) _
    have f0 := blk_cell im1.blk 0
    have f3 := blk_cell im1.blk 3
    have f4 := blk_cell im1.blk 4
    have f5 := blk_cell im1.blk 5
    clear z5 z3 z2 h0 h2 h3 h5
    have z5 := blk_frozen im1.blk 5
    obtain ⟨b0, b1, b2, b3, b4, b5, b6, b7⟩ := blk4 bx1
    have hg1 := im1.lt.1
    have hs1 : w.heap.size < W1.heap.size := blk_lt bx1
    simp only [List.getElem?_toArray, List.getElem?_cons_zero, List.getElem?_cons_succ] at f0 f3 f4 f5
    have IM1 := Lib.hid im1
    have BX1 := Lib.hid bx1
    have FR1 := Lib.hid fr1
    clear im1 bx1 fr1
    go_still_tail 6, (by kernel_rfl)
    go_wp2_with (at_builtin; go_loud (refine wpList_app rfl _ _ 59 rfl w.heap.size 67 _ 7 56 Try.underlying59 info_ev rfl (by omega) _ 1 1 (evCells [⟨2, at_, hh, 0⟩]) rfl (own_alloc (evRow_one (x := ⟨2, at_, hh, 0⟩) (by rw [HCC.out]; exact heap_alloc_new W1 _) FR1.out.size) _) _ 1 1 (Ev.cells ⟨4, at_, Hd.zero, 0⟩) rfl (reads_lit (heap_new (by simp)) rfl) (by simp [Ev.cells, Value.oneCell']) (by unfold maxLen; omega) (by omega) (by have := FR1.out.size; first | omega | (simp; omega)) ?_; intro A3 c3 w3 hown hgr _ hat; have HOWN := Lib.hid hown; have HGR := Lib.hid hgr; clear hown hgr hat))
    go_ret2
    have gr : ((W1.alloc (.cells #[.int .i64 2, .int .i64 at_, .int .i64 hh.cl, .int .i64 hh.tag, .bool false, .int .i64 hh.len, .int .u8 0] 67)).alloc (.cells #[.int .i64 4, .int .i64 at_, .int .i64 0, .int .i64 0, .bool false, .int .i64 0, .int .u8 0] 67)).grownBy w3 (some W1.heap.size) := by
      first | exact HGR.out | exact grown_un1 HGR.out
    have hsz := FR1.out.size
    have f1 := ((FR1.out.alloc _).alloc _).grown gr (fun k hk e => by injection e with e; omega)
    have f2 := (((Fr.refl (fun _ => False) W1).alloc _).alloc _).grown gr (fun k hk e => by injection e with e; omega)
    have im := IM1.out.keep f2 (fun h => h) (fun h => h) (fun h => h) (fun _ _ h => h) (fun _ _ h => h)
    have ev : EvRow w3 w.heap.size (.slice A3 (1 + 1) c3) [⟨2, at_, hh, 0⟩, ⟨4, at_, Hd.zero, 0⟩] := HOWN.out
    first
      | exact ⟨HH.out.kp f1 (fun i _ h => h), fun h => absurd rfl h, fun _ => ⟨_, _, rfl, ev, im⟩⟩
      | exact ⟨HH.out.kp f1.drew (fun i _ h => h), fun h => absurd rfl h, fun _ => ⟨_, _, rfl, ev, im.drew⟩⟩
  | cons x r =>
    have q1 : decide ((0 : Int) < ((x :: r).length : Int)) = true := by simp
    have q2 : decide (stLeft (x :: r) < hh.len) = false := decide_eq_false (by have := FIT.out.resolve_left (by simp); omega)
    clear FIT
    go_enter Try.func152, Try.ntmps152
    go_wp2_with fail
    go_quiet (first | (go_at_call 112; exact SD.out _) | (go_at_call 178; exact SL.out _))
    go_wp2_with fail
    refine wp_name fun W1 HW1 => ?_
    have im1 : IsM W1 B gm go gh vr (.slice A 0 c) most (x :: r) hh.len [] cr true at_ := by
      rw [HW1.out]
      have k := HH.out.below ((Below.refl w.heap.size w).alloc (Nat.le_refl _) (.cells #[.int .i64 hh.cl, .int .i64 hh.tag, .bool false, .int .i64 hh.len] 65))
      have k1 := fun n => (k.drewN n).came (cm' := []) (Fr.refl _ _) (vm' := .slice A 0 c) (.inl (by cases A <;> rfl)) (own_zero k.row)
      exact ((k1 _).begun_ true).leaf_ hh.len
    have bx1 : W1.heap[w.heap.size]? = some (.cells #[.int .i64 hh.cl, .int .i64 hh.tag, .bool false, .int .i64 hh.len] 65 (0, 0)) := by
      rw [HW1.out]
      exact blk_far (blk_far (blk_far (heap_alloc_new w _) (by simp; omega) _) (by simp; omega) _) (by simp; omega) _
    have fr1 : Fr (fun k => k = gm ∨ k = go ∨ k = gh ∨ some k = vr.ownBlock ∨ some k = (Value.slice A cm.length c).ownBlock) w W1 := by
      rw [HW1.out]
      exact (((((Fr.refl _ w).alloc _).drewN _).setCell (fun _ => .inl rfl) _).setCell (fun _ => .inl rfl) _).setCell (fun _ => .inl rfl) _
    have f0 := blk_cell im1.blk 0
    have f3 := blk_cell im1.blk 3
    have f4 := blk_cell im1.blk 4
    have f5 := blk_cell im1.blk 5
    clear z5 z3 z2 h0 h2 h3 h5
    have z5 := blk_frozen im1.blk 5
    obtain ⟨b0, b1, b2, b3, b4, b5, b6, b7⟩ := blk4 bx1
    have hg1 := im1.lt.1
    have hs1 : w.heap.size < W1.heap.size := blk_lt bx1
    simp only [List.getElem?_toArray, List.getElem?_cons_zero, List.getElem?_cons_succ] at f0 f3 f4 f5
    have IM1 := Lib.hid im1
    have BX1 := Lib.hid bx1
    have FR1 := Lib.hid fr1
    clear im1 bx1 fr1
    go_still_tail 6, (by kernel_rfl)
    go_wp2_with (at_builtin; go_loud (refine wpList_app rfl _ _ 59 rfl w.heap.size 67 _ 7 56 Try.underlying59 info_ev rfl (by omega) _ 1 1 (evCells [⟨2, at_, hh, 0⟩]) rfl (own_alloc (evRow_one (x := ⟨2, at_, hh, 0⟩) (by rw [HCC.out]; exact heap_alloc_new W1 _) FR1.out.size) _) _ 1 1 (Ev.cells ⟨4, at_, Hd.zero, 0⟩) rfl (reads_lit (heap_new (by simp)) rfl) (by simp [Ev.cells, Value.oneCell']) (by unfold maxLen; omega) (by omega) (by have := FR1.out.size; first | omega | (simp; omega)) ?_; intro A3 c3 w3 hown hgr _ hat; have HOWN := Lib.hid hown; have HGR := Lib.hid hgr; clear hown hgr hat))
    go_ret2
    have gr : ((W1.alloc (.cells #[.int .i64 2, .int .i64 at_, .int .i64 hh.cl, .int .i64 hh.tag, .bool false, .int .i64 hh.len, .int .u8 0] 67)).alloc (.cells #[.int .i64 4, .int .i64 at_, .int .i64 0, .int .i64 0, .bool false, .int .i64 0, .int .u8 0] 67)).grownBy w3 (some W1.heap.size) := by
      first | exact HGR.out | exact grown_un1 HGR.out
    have hsz := FR1.out.size
    have f1 := ((FR1.out.alloc _).alloc _).grown gr (fun k hk e => by injection e with e; omega)
    have f2 := (((Fr.refl (fun _ => False) W1).alloc _).alloc _).grown gr (fun k hk e => by injection e with e; omega)
    have im := IM1.out.keep f2 (fun h => h) (fun h => h) (fun h => h) (fun _ _ h => h) (fun _ _ h => h)
    have ev : EvRow w3 w.heap.size (.slice A3 (1 + 1) c3) [⟨2, at_, hh, 0⟩, ⟨4, at_, Hd.zero, 0⟩] := HOWN.out
    first
      | exact ⟨HH.out.kp f1 (fun i _ h => h), fun h => absurd rfl h, fun _ => ⟨_, _, rfl, ev, im⟩⟩
      | exact ⟨HH.out.kp f1.drew (fun i _ h => h), fun h => absurd rfl h, fun _ => ⟨_, _, rfl, ev, im.drew⟩⟩

set_option maxRecDepth 100000 in
set_option maxHeartbeats 2000000 in
theorem mbegin_leaf (h : IsM w B gm go gh vr vm most lefts leaf cm cr begun at_) (hB : B ≤ w.heap.size) (hh : Hd) (hl : lefts = [] ∨ hh.len ≤ stLeft lefts) (h0l : 0 ≤ hh.len) (h1l : hh.len ≤ 2305843009213693951) (hc : hh.cons = false) (hn : ¬ hh.len = 0) :
    Calls Try.prog 152 #[.pointer (some ⟨gm, 0, none⟩), .agg #[.int .i64 hh.cl, .int .i64 hh.tag, .bool hh.cons, .int .i64 hh.len]] w (BeginPost w B gm go gh vr most cr at_ (mBegin most lefts leaf at_ hh)) := by
  have h0 := blk_cell h.blk 0
  have h2 := blk_cell h.blk 2
  have z2 := blk_frozen h.blk 2
  have h3 := blk_cell h.blk 3
  have z3 := blk_frozen h.blk 3
  have h5 := blk_cell h.blk 5
  have z5 := blk_frozen h.blk 5
  obtain ⟨A, c, rfl⟩ := own_slice h.row
  have sd := fun n => sdepth_q h.stk ((Below.refl w.heap.size w).alloc (Nat.le_refl _) (.cells #[.int .i64 hh.cl, .int .i64 hh.tag, .bool false, .int .i64 hh.len] 65)) n
  have sl := fun n => sleft_q h.stk ((Below.refl w.heap.size w).alloc (Nat.le_refl _) (.cells #[.int .i64 hh.cl, .int .i64 hh.tag, .bool false, .int .i64 hh.len] 65)) n
  have hgl := h.lt.1
  simp only [List.getElem?_toArray, List.getElem?_cons_zero, List.getElem?_cons_succ] at h0 h2 h3 h5
  have SL := Lib.hid sl
  have SD := Lib.hid sd
  have HH := Lib.hid h
  have FIT := Lib.hid hl
  have fin : mBegin most lefts leaf at_ hh = if hh.cons = true then
    if (stEnter most hh.len lefts).1 = 0 then (0, [⟨1, at_, hh, 0⟩], (stEnter most hh.len lefts).2, leaf) else ((stEnter most hh.len lefts).1, [], lefts, leaf)
    else (0, ⟨2, at_, hh, 0⟩ :: (if hh.len = 0 then [⟨4, at_, Hd.zero, 0⟩] else []), lefts, hh.len) := by
    unfold mBegin
    rw [if_neg]
    rintro ⟨q1, q2⟩
    have := hl.resolve_left q1
    omega
  rw [fin, hc]
  have HCC := Lib.hid hc
  simp only [Bool.false_eq_true, if_false]
  rw [if_neg hn]
  have hn1 : (hh.len == 0) = false := beq_eq_false_iff_ne.2 hn
  have HN := Lib.hid hn
  clear hn
  clear sd sl h hl hc fin
  cases lefts with
  | nil =>
    clear FIT
    go_enter Try.func152, Try.ntmps152
    go_wp2_with fail
    go_quiet ((go_at_call 112; exact SD.out _))
    go_wp2_with fail
    refine wp_name fun W1 HW1 => ?_
    have im1 : IsM W1 B gm go gh vr (.slice A 0 c) most [] hh.len [] cr true at_ := by
      rw [HW1.out]
      have k := HH.out.below ((Below.refl w.heap.size w).alloc (Nat.le_refl _) (.cells #[.int .i64 hh.cl, .int .i64 hh.tag, .bool false, .int .i64 hh.len] 65))
      have k1 := fun n => (k.drewN n).came (cm' := []) (Fr.refl _ _) (vm' := .slice A 0 c) (.inl (by cases A <;> rfl)) (own_zero k.row)
      exact ((k1 _).begun_ true).leaf_ hh.len
    have bx1 : W1.heap[w.heap.size]? = some (.cells #[.int .i64 hh.cl, .int .i64 hh.tag, .bool false, .int .i64 hh.len] 65 (0, 0)) := by
      rw [HW1.out]
      exact blk_far (blk_far (blk_far (heap_alloc_new w _) (by simp; omega) _) (by simp; omega) _) (by simp; omega) _
    have fr1 : Fr (fun k => k = gm ∨ k = go ∨ k = gh ∨ some k = vr.ownBlock ∨ some k = (Value.slice A cm.length c).ownBlock) w W1 := by
      rw [HW1.out]
      exact (((((Fr.refl _ w).alloc _).drewN _).setCell (fun _ => .inl rfl) _).setCell (fun _ => .inl rfl) _).setCell (fun _ => .inl rfl) _
    have f0 := blk_cell im1.blk 0
    have f3 := blk_cell im1.blk 3
    have f4 := blk_cell im1.blk 4
    have f5 := blk_cell im1.blk 5
    clear z5 z3 z2 h0 h2 h3 h5
    have z5 := blk_frozen im1.blk 5
    obtain ⟨b0, b1, b2, b3, b4, b5, b6, b7⟩ := blk4 bx1
    have hg1 := im1.lt.1
    have hs1 : w.heap.size < W1.heap.size := blk_lt bx1
    simp only [List.getElem?_toArray, List.getElem?_cons_zero, List.getElem?_cons_succ] at f0 f3 f4 f5
    have IM1 := Lib.hid im1
    have BX1 := Lib.hid bx1
    have FR1 := Lib.hid fr1
    clear im1 bx1 fr1
    go_still_tail 6, (by kernel_rfl)
    go_wp2_with fail
    go_ret2
    exact ⟨HH.out.kp ((FR1.out.alloc _).drew) (fun i _ h => h), fun h => absurd rfl h, fun _ => ⟨_, _, rfl, evRow_one (x := ⟨2, at_, hh, 0⟩) (by rw [HCC.out]; exact heap_alloc_new W1 _) FR1.out.size, (IM1.out.below ((Below.refl _ _).alloc (Nat.le_refl _) _)).drew⟩⟩
  | cons x r =>
    have q1 : decide ((0 : Int) < ((x :: r).length : Int)) = true := by simp
    have q2 : decide (stLeft (x :: r) < hh.len) = false := decide_eq_false (by have := FIT.out.resolve_left (by simp); omega)
    clear FIT
    go_enter Try.func152, Try.ntmps152
    go_wp2_with fail
    go_quiet (first | (go_at_call 112; exact SD.out _) | (go_at_call 178; exact SL.out _))
    go_wp2_with fail
    refine wp_name fun W1 HW1 => ?_
    have im1 : IsM W1 B gm go gh vr (.slice A 0 c) most (x :: r) hh.len [] cr true at_ := by
      rw [HW1.out]
      have k := HH.out.below ((Below.refl w.heap.size w).alloc (Nat.le_refl _) (.cells #[.int .i64 hh.cl, .int .i64 hh.tag, .bool false, .int .i64 hh.len] 65))
      have k1 := fun n => (k.drewN n).came (cm' := []) (Fr.refl _ _) (vm' := .slice A 0 c) (.inl (by cases A <;> rfl)) (own_zero k.row)
      exact ((k1 _).begun_ true).leaf_ hh.len
    have bx1 : W1.heap[w.heap.size]? = some (.cells #[.int .i64 hh.cl, .int .i64 hh.tag, .bool false, .int .i64 hh.len] 65 (0, 0)) := by
      rw [HW1.out]
      exact blk_far (blk_far (blk_far (heap_alloc_new w _) (by simp; omega) _) (by simp; omega) _) (by simp; omega) _
    have fr1 : Fr (fun k => k = gm ∨ k = go ∨ k = gh ∨ some k = vr.ownBlock ∨ some k = (Value.slice A cm.length c).ownBlock) w W1 := by
      rw [HW1.out]
      exact (((((Fr.refl _ w).alloc _).drewN _).setCell (fun _ => .inl rfl) _).setCell (fun _ => .inl rfl) _).setCell (fun _ => .inl rfl) _
    have f0 := blk_cell im1.blk 0
    have f3 := blk_cell im1.blk 3
    have f4 := blk_cell im1.blk 4
    have f5 := blk_cell im1.blk 5
    clear z5 z3 z2 h0 h2 h3 h5
    have z5 := blk_frozen im1.blk 5
    obtain ⟨b0, b1, b2, b3, b4, b5, b6, b7⟩ := blk4 bx1
    have hg1 := im1.lt.1
    have hs1 : w.heap.size < W1.heap.size := blk_lt bx1
    simp only [List.getElem?_toArray, List.getElem?_cons_zero, List.getElem?_cons_succ] at f0 f3 f4 f5
    have IM1 := Lib.hid im1
    have BX1 := Lib.hid bx1
    have FR1 := Lib.hid fr1
    clear im1 bx1 fr1
    go_still_tail 6, (by kernel_rfl)
    go_wp2_with fail
    go_ret2
    exact ⟨HH.out.kp ((FR1.out.alloc _).drew) (fun i _ h => h), fun h => absurd rfl h, fun _ => ⟨_, _, rfl, evRow_one (x := ⟨2, at_, hh, 0⟩) (by rw [HCC.out]; exact heap_alloc_new W1 _) FR1.out.size, (IM1.out.below ((Below.refl _ _).alloc (Nat.le_refl _) _)).drew⟩⟩
set_option maxRecDepth 100000 in
theorem mbegin_any (h : IsM w B gm go gh vr vm most lefts leaf cm cr begun at_) (hB : B ≤ w.heap.size) (hh : Hd) (h0l : 0 ≤ hh.len) (h1l : hh.len ≤ 2305843009213693951) :
    Calls Try.prog 152 #[.pointer (some ⟨gm, 0, none⟩), .agg #[.int .i64 hh.cl, .int .i64 hh.tag, .bool hh.cons, .int .i64 hh.len]] w (BeginPost w B gm go gh vr most cr at_ (mBegin most lefts leaf at_ hh)) := by
  by_cases hf : lefts ≠ [] ∧ stLeft lefts < hh.len
  · have e1 : mBegin most lefts leaf at_ hh = (5, [], lefts, leaf) := by unfold mBegin; rw [if_pos hf]
    rw [e1]
    obtain ⟨x, r, rfl⟩ := List.exists_cons_of_ne_nil hf.1
    refine (mbegin_fit h hh x r rfl hf.2).mono ?_
    rintro e w' ⟨rfl, hb⟩
    exact ⟨Kp.of_below hb hB, fun _ => ⟨rfl, h.has.below hb⟩, fun h => absurd h (by simp)⟩
  · have hl : lefts = [] ∨ hh.len ≤ stLeft lefts := by
      by_cases q : lefts = []
      · exact .inl q
      · exact .inr (Int.not_lt.1 fun h => hf ⟨q, h⟩)
    by_cases hc : hh.cons = true
    · by_cases he : (stEnter most hh.len lefts).1 = 0
      · exact mbegin_enter h hB hh hl h0l h1l hc he
      · exact mbegin_deep h hB hh hl h0l h1l hc he
    · have hc : hh.cons = false := by simpa using hc
      by_cases hn : hh.len = 0
      · exact mbegin_zero h hB hh hl h0l h1l hc hn
      · exact mbegin_leaf h hB hh hl h0l h1l hc hn
end
end Go.Proofs.Ytkabmmpccfeffaa
