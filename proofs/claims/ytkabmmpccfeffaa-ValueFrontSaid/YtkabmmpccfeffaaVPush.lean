/- Layer 9 (event.Machine): Push. -/
import Derived.Test.YtkabmmpccfeffaaVStep
import Derived.Outline
import Derived.Deep.LoopGhost
namespace Go.Proofs.Ytkabmmpccfeffaa
open Go.RowKit
set_option linter.unusedVariables false
set_option linter.unusedSimpArgs false

/-- The elements that are over: their events, and what is left of the others. -/
def mExits (at_ : Int) : List Int → List Ev × List Int
  | [] => ([], [])
  | x :: r => if x = 0 then (⟨5, at_, Hd.zero, 0⟩ :: (mExits at_ r).1, (mExits at_ r).2) else ([], x :: r)
def MS.done (s : MS) : Bool := mDone s.begun s.lefts s.leaf s.came
def mPush (most : Nat) (s : MS) (b : Int) : Int × List Ev × MS :=
  if s.done = true then (6, [], s)
  else if (mStep most s b).1 = 0 then
    if (mStep most s b).2.2.leaf = 0 ∧ (mStep most s b).2.2.came = [] then
      (0, (mStep most s b).2.1 ++ (mExits s.at_ (mStep most s b).2.2.lefts).1, { (mStep most s b).2.2 with lefts := (mExits s.at_ (mStep most s b).2.2.lefts).2, at_ := s.at_ + 1 })
    else (0, (mStep most s b).2.1, { (mStep most s b).2.2 with at_ := s.at_ + 1 })
  else ((mStep most s b).1, [], s)

theorem mdone_q {w W : World} {B gm go gh : Nat} {vr vm : Value} {most : Nat} {lefts : List Int} {leaf : Int} {cm cr : List Int} {begun : Bool} {at_ : Int} (h : IsM w B gm go gh vr vm most lefts leaf cm cr begun at_) (n : Nat) :
    Calls Try.prog 73 #[.pointer (some ⟨gm, 0, none⟩)] (w.drewN n) fun e w'' => e = .returned (.bool (mDone begun lefts leaf cm)) ∧ ∃ m, w'' = w.drewN m :=
  Calls.quiet_of (mdone_any (h.drewN n))
theorem own_own {w : World} {b1 b2 n1 n2 s1 s2 : Nat} {e1 e2 : TypeId} {v1 v2 : Value} {x1 x2 : List Value} (h1 : w.ownsRow b1 e1 s1 v1 n1 x1) (h2 : w.ownsRow b2 e2 s2 v2 n2 x2) (hne : e1 ≠ e2) : ∀ i, some i = v1.ownBlock → ¬ some i = v2.ownBlock := by
  intro i hi1 hi2
  rcases h1.2 with ⟨rfl, _⟩ | ⟨g, cap, cur, rfl, _, hh, _⟩
  · simp [Value.ownBlock] at hi1
  · have : i = g := by simpa [Value.ownBlock] using hi1
    subst this
    exact own_ne h2 hh (Ne.symm hne) hi2
/-- A slice's value. -/
def EvRowOpen (o : Value) : Prop := ∃ A n c, o = .slice A n c
section
variable {w : World} {B gm go gh : Nat} {vr vm : Value} {most : Nat} {lefts : List Int} {leaf : Int} {came : List Int} {begun : Bool} {at_ : Int}
set_option maxRecDepth 100000 in
set_option maxHeartbeats 2000000 in
theorem mpush_more (h : IsM w B gm go gh vr vm most lefts leaf came came begun at_) (hB : B ≤ w.heap.size) (b : Int) (hd : mDone begun lefts leaf came = true) :
    Calls Try.prog 72 #[.pointer (some ⟨gm, 0, none⟩), .int .u8 b] w (StepPost w B gm most (mPush most ⟨lefts, leaf, came, begun, at_⟩ b)) := by
  have e1 : mPush most ⟨lefts, leaf, came, begun, at_⟩ b = (6, [], ⟨lefts, leaf, came, begun, at_⟩) := by unfold mPush; exact if_pos hd
  rw [e1]
  have h6 := blk_cell h.blk 6
  have z6 := blk_frozen h.blk 6
  simp only [List.getElem?_toArray, List.getElem?_cons_zero, List.getElem?_cons_succ] at h6
  have dn := mdone_any h
  rw [hd] at dn
  have DN := Lib.hid dn
  have HH := Lib.hid h
  clear h dn hd e1
  go_enter Try.func72, Try.ntmps72
  go_wp2_with fail
  refine DN.out.mono ?_
  rintro e w1 ⟨rfl, n, rfl⟩
  go_wp2_with fail
  refine wp_name fun W1 HW1 => ?_
  have hb1 : ∃ cs : Array Value, W1.heap[gm]? = some (.cells cs 160 (0, 0)) ∧ cs.size = 7 ∧ cs[6]? = some (.int .i64 6) := by
    rw [HW1.out]
    exact ⟨_, blk_set HH.out.blk 6 _, rfl, rfl⟩
  have fr1 : Fr (fun k => k = gm ∨ k = go ∨ k = gh ∨ some k = vr.ownBlock ∨ some k = vm.ownBlock) w W1 := by
    rw [HW1.out]
    exact ((Fr.refl _ w).drewN _).setCell (fun _ => .inl rfl) _
  obtain ⟨cs, hb1, hs1, hc1⟩ := hb1
  have f6 : W1.cell? ⟨gm, 6, none⟩ = some (.int .i64 6) := (blk_cell hb1 6).trans hc1
  have HB1 := Lib.hid hb1
  have FR1 := Lib.hid fr1
  clear hb1 fr1 hc1
  go_quiet (fail)
  go_wp2
  go_ret2
  exact ⟨HH.out.kp (FR1.out.drewN _) (fun i _ h => h), fun _ => ⟨rfl, cs, HB1.out, hs1⟩, fun h => absurd h (by simp)⟩
set_option maxRecDepth 100000 in
set_option maxHeartbeats 2000000 in
theorem mpush_err (h : IsM w B gm go gh vr vm most lefts leaf came came begun at_) (hB : B ≤ w.heap.size) (b : Int) (h0l : 0 ≤ leaf) (h1l : leaf ≤ 2305843009213693951) (hcl : came.length < 999999) (hd : mDone begun lefts leaf came = false)
    (he : (mStep most ⟨lefts, leaf, came, begun, at_⟩ b).1 ≠ 0) :
    Calls Try.prog 72 #[.pointer (some ⟨gm, 0, none⟩), .int .u8 b] w (StepPost w B gm most (mPush most ⟨lefts, leaf, came, begun, at_⟩ b)) := by
  have e1 : mPush most ⟨lefts, leaf, came, begun, at_⟩ b = ((mStep most ⟨lefts, leaf, came, begun, at_⟩ b).1, [], ⟨lefts, leaf, came, begun, at_⟩) := by
    unfold mPush
    rw [if_neg (by simpa [MS.done] using hd), if_neg he]
  rw [e1]
  have h6 := blk_cell h.blk 6
  simp only [List.getElem?_toArray, List.getElem?_cons_zero, List.getElem?_cons_succ] at h6
  have dn := mdone_any h
  rw [hd] at dn
  have sp := fun n => mstep_any (h.drewN n) hB b h0l h1l hcl
  unfold StepPost at sp
  generalize mStep most ⟨lefts, leaf, came, begun, at_⟩ b = r at sp he ⊢
  obtain ⟨er, evs, s'⟩ := r
  simp only at sp he ⊢
  have he1 : (er != 0) = true := bne_iff_ne.2 he
  have he2 : (er == 0) = false := beq_eq_false_iff_ne.2 he
  have DN := Lib.hid dn
  have SP := Lib.hid sp
  have HH := Lib.hid h
  have HE := Lib.hid he
  clear h dn hd e1 sp he
  go_enter Try.func72, Try.ntmps72
  go_wp2_with fail
  refine DN.out.mono ?_
  rintro e w1 ⟨rfl, n, rfl⟩
  go_wp2_with fail
  refine (SP.out _).mono ?_
  rintro e w2 ⟨hk, ha, _⟩
  obtain ⟨rfl, cs, hb2, hs2⟩ := ha HE.out
  have f6 : w2.cell? ⟨gm, 6, none⟩ = some (cs[6]'(by omega)) := by rw [blk_cell hb2, Array.getElem?_eq_getElem]
  have z6 := blk_frozen hb2 6
  have HB2 := Lib.hid hb2
  have HK := Lib.hid ((Kp.of_fr (S := fun _ => False) (B := B) (ts := mT) ((Fr.refl _ w).drewN n) (fun _ _ h => h.elim)).trans hk)
  clear hb2 hk ha
  go_wp2_with fail
  go_ret2
  exact ⟨HK.out.setCell HB2.out HH.out.ge (.inl (by simp [mT])), fun _ => ⟨rfl, _, blk_set HB2.out 6 _, by simpa using hs2⟩, fun h => absurd h HE.out⟩
set_option maxRecDepth 100000 in
set_option maxHeartbeats 2000000 in
theorem mpush_skip (h : IsM w B gm go gh vr vm most lefts leaf came came begun at_) (hB : B ≤ w.heap.size) (b : Int) (h0l : 0 ≤ leaf) (h1l : leaf ≤ 2305843009213693951) (hcl : came.length < 999999) (hd : mDone begun lefts leaf came = false)
    (hat0 : 0 ≤ at_) (hat : at_ < 999999)
    (he : (mStep most ⟨lefts, leaf, came, begun, at_⟩ b).1 = 0) (hx : ¬ ((mStep most ⟨lefts, leaf, came, begun, at_⟩ b).2.2.leaf = 0 ∧ (mStep most ⟨lefts, leaf, came, begun, at_⟩ b).2.2.came = [])) (hat2 : (mStep most ⟨lefts, leaf, came, begun, at_⟩ b).2.2.at_ = at_) :
    Calls Try.prog 72 #[.pointer (some ⟨gm, 0, none⟩), .int .u8 b] w (StepPost w B gm most (mPush most ⟨lefts, leaf, came, begun, at_⟩ b)) := by
  have e1 : mPush most ⟨lefts, leaf, came, begun, at_⟩ b = (0, (mStep most ⟨lefts, leaf, came, begun, at_⟩ b).2.1, { (mStep most ⟨lefts, leaf, came, begun, at_⟩ b).2.2 with at_ := at_ + 1 }) := by
    unfold mPush
    rw [if_neg (by simpa [MS.done] using hd), if_pos he, if_neg hx]
  rw [e1]
  have h6 := blk_cell h.blk 6
  simp only [List.getElem?_toArray, List.getElem?_cons_zero, List.getElem?_cons_succ] at h6
  have dn := mdone_any h
  rw [hd] at dn
  have sp := fun n => mstep_any (h.drewN n) hB b h0l h1l hcl
  unfold StepPost at sp
  generalize mStep most ⟨lefts, leaf, came, begun, at_⟩ b = r at sp he hx hat2 ⊢
  obtain ⟨er, evs, ls', leaf', came', begun', at'⟩ := r
  simp only at sp he hx hat2 ⊢
  subst he hat2
  have DN := Lib.hid dn
  have SP := Lib.hid sp
  have HH := Lib.hid h
  have HX := Lib.hid hx
  clear h dn hd e1 sp hx
  go_enter Try.func72, Try.ntmps72
  go_wp2_with fail
  refine DN.out.mono ?_
  rintro e w1 ⟨rfl, n, rfl⟩
  go_wp2_with fail
  refine (SP.out _).mono ?_
  rintro e w2 ⟨hk, _, hb⟩
  obtain ⟨v, rfl, hev, go2, gh2, vr2, vm2, him⟩ := hb (by simp)
  obtain ⟨A2, c2, rfl⟩ := own_slice him.row
  have f2 := blk_cell him.blk 2
  have f3 := blk_cell him.blk 3
  have f4 := blk_cell him.blk 4
  have z4 := blk_frozen him.blk 4
  simp only [List.getElem?_toArray, List.getElem?_cons_zero, List.getElem?_cons_succ] at f2 f3 f4
  have HK := Lib.hid ((Kp.of_fr (S := fun _ => False) (B := B) (ts := mT) ((Fr.refl _ w).drewN n) (fun _ _ h => h.elim)).trans hk)
  have IM := Lib.hid him
  have HEV := Lib.hid hev
  clear hk hb him hev
  go_wp2_with fail
  refine wp_loop_rounds 1 ?_
  rw [rounds_succ]
  by_cases q : leaf' = 0
  · subst q
    have q2 : (((came'.length : Nat) : Int) == 0) = false := beq_eq_false_iff_ne.2 (by
      intro e
      have : came' = [] := List.eq_nil_of_length_eq_zero (by omega)
      exact HX.out ⟨rfl, this⟩)
    go_wp2_with fail
    go_ret2
    have ev : EvRow (w2.setCell ⟨gm, 4, none⟩ (.int .i64 (at' + 1))) w.heap.size v evs := own_setCell HEV.out (own_ne HEV.out IM.out.blk (by decide)) (p := ⟨gm, 4, none⟩) _
    exact ⟨HK.out.setCell IM.out.blk IM.out.ge (.inl (by simp [mT])), fun h => absurd rfl h, fun _ => ⟨_, rfl, ev, _, _, _, _, IM.out.at__ _⟩⟩
  · have q2 : (leaf' == 0) = false := beq_eq_false_iff_ne.2 q
    go_wp2_with fail
    go_ret2
    have ev : EvRow (w2.setCell ⟨gm, 4, none⟩ (.int .i64 (at' + 1))) w.heap.size v evs := own_setCell HEV.out (own_ne HEV.out IM.out.blk (by decide)) (p := ⟨gm, 4, none⟩) _
    exact ⟨HK.out.setCell IM.out.blk IM.out.ge (.inl (by simp [mT])), fun h => absurd rfl h, fun _ => ⟨_, rfl, ev, _, _, _, _, IM.out.at__ _⟩⟩
set_option maxRecDepth 100000 in
set_option maxHeartbeats 2000000 in
theorem mpush_exit (h : IsM w B gm go gh vr vm most lefts leaf came came begun at_) (hB : B ≤ w.heap.size) (b : Int) (hbig : (mStep most ⟨lefts, leaf, came, begun, at_⟩ b).2.1.length + (mStep most ⟨lefts, leaf, came, begun, at_⟩ b).2.2.lefts.length < 100000000) (h0l : 0 ≤ leaf) (h1l : leaf ≤ 2305843009213693951) (hcl : came.length < 999999) (hd : mDone begun lefts leaf came = false)
    (hat0 : 0 ≤ at_) (hat : at_ < 999999)
    (he : (mStep most ⟨lefts, leaf, came, begun, at_⟩ b).1 = 0) (hx : ((mStep most ⟨lefts, leaf, came, begun, at_⟩ b).2.2.leaf = 0 ∧ (mStep most ⟨lefts, leaf, came, begun, at_⟩ b).2.2.came = [])) (hat2 : (mStep most ⟨lefts, leaf, came, begun, at_⟩ b).2.2.at_ = at_) :
    Calls Try.prog 72 #[.pointer (some ⟨gm, 0, none⟩), .int .u8 b] w (StepPost w B gm most (mPush most ⟨lefts, leaf, came, begun, at_⟩ b)) := by
  have e1 : mPush most ⟨lefts, leaf, came, begun, at_⟩ b = (0, (mStep most ⟨lefts, leaf, came, begun, at_⟩ b).2.1 ++ (mExits at_ (mStep most ⟨lefts, leaf, came, begun, at_⟩ b).2.2.lefts).1, { (mStep most ⟨lefts, leaf, came, begun, at_⟩ b).2.2 with lefts := (mExits at_ (mStep most ⟨lefts, leaf, came, begun, at_⟩ b).2.2.lefts).2, at_ := at_ + 1 }) := by
    unfold mPush
    rw [if_neg (by simpa [MS.done] using hd), if_pos he, if_pos hx]
  rw [e1]
  have h6 := blk_cell h.blk 6
  simp only [List.getElem?_toArray, List.getElem?_cons_zero, List.getElem?_cons_succ] at h6
  have dn := mdone_any h
  rw [hd] at dn
  have sp := fun n => mstep_any (h.drewN n) hB b h0l h1l hcl
  unfold StepPost at sp
  generalize mStep most ⟨lefts, leaf, came, begun, at_⟩ b = r at sp he hx hat2 hbig ⊢
  obtain ⟨er, evs, ls', leaf', came', begun', at'⟩ := r
  simp only at sp he hx hat2 hbig ⊢
  obtain ⟨hx1, hx2⟩ := hx
  subst he hat2 hx1 hx2
  have HBIG := Lib.hid hbig
  clear hbig
  have DN := Lib.hid dn
  have SP := Lib.hid sp
  have HH := Lib.hid h
  clear h dn hd e1 sp
  go_enter Try.func72, Try.ntmps72
  go_wp2_with fail
  refine DN.out.mono ?_
  rintro e w1 ⟨rfl, n, rfl⟩
  go_wp2_with fail
  refine (SP.out _).mono ?_
  rintro e w2 ⟨hk, _, hb⟩
  obtain ⟨v, rfl, hev, go2, gh2, vr2, vm2, him⟩ := hb (by simp)
  obtain ⟨A2, c2, rfl⟩ := own_slice him.row
  have f2 := blk_cell him.blk 2
  have f3 := blk_cell him.blk 3
  have f4 := blk_cell him.blk 4
  have z4 := blk_frozen him.blk 4
  simp only [List.getElem?_toArray, List.getElem?_cons_zero, List.getElem?_cons_succ] at f2 f3 f4
  have HK := Lib.hid ((Kp.of_fr (S := fun _ => False) (B := B) (ts := mT) ((Fr.refl _ w).drewN n) (fun _ _ h => h.elim)).trans hk)
  have IM := Lib.hid him
  have HEV := Lib.hid hev
  clear hk hb him hev
  go_wp2_with fail
  go_loopg [6] ls'.length (fun k o wr => ∃ (ls : List Int) (evs0 : List Ev), ls.length ≤ k ∧ EvRowOpen o ∧ Hid (IsM wr B gm go2 gh2 vr2 (.slice A2 0 c2) most ls 0 [] [] begun' at' ∧ EvRow wr w.heap.size o evs0 ∧ evs0.length + ls.length ≤ evs.length + ls'.length ∧ Kp B mT w wr ∧ evs ++ (mExits at' ls').1 = evs0 ++ (mExits at' ls).1 ∧ (mExits at' ls').2 = (mExits at' ls).2))
  case atStart => exact ⟨ls', evs, Nat.le_refl _, (by obtain ⟨A, c, h⟩ := own_slice HEV.out; exact ⟨A, _, c, h⟩), Lib.hid ⟨IM.out, HEV.out, Nat.le_refl _, HK.out, rfl, rfl⟩⟩
  case round =>
    obtain ⟨ls, evs0, hk, ⟨A, n, c, rfl⟩, HR⟩ := hrel
    have him := HR.out.1
    have f0 := blk_cell him.blk 0
    have f2 := blk_cell him.blk 2
    have f3 := blk_cell him.blk 3
    have f4 := blk_cell him.blk 4
    have z4 := blk_frozen him.blk 4
    simp only [List.getElem?_toArray, List.getElem?_cons_zero, List.getElem?_cons_succ] at f0 f2 f3 f4
    have slv := sleave_any him.stk
    by_cases hz : ∃ r, ls = 0 :: r
    · obtain ⟨r, rfl⟩ := hz
      simp only [stLeave, if_true] at slv
      have SLV := Lib.hid slv
      clear slv him
      go_wp2_with fail
      refine SLV.out.mono ?_
      rintro e w5 ⟨rfl, hs5, fr5⟩
      have im5 := HR.out.1.stack fr5 hs5
      obtain ⟨cs5, hcs5⟩ := HR.out.1.stk.blk_
      have ev5 : EvRow w5 w.heap.size (.slice A n c) evs0 := fr5.own HR.out.2.1 (own_far HR.out.2.1 hcs5 (by decide))
      clear hcs5
      have kp5 := HR.out.2.2.2.1.trans (HR.out.1.kp fr5 (fun i _ e => .inr (.inl e)))
      have g0 := blk_cell im5.blk 0
      have g2 := blk_cell im5.blk 2
      have g3 := blk_cell im5.blk 3
      have g4 := blk_cell im5.blk 4
      have hg5 := im5.lt.1
      simp only [List.getElem?_toArray, List.getElem?_cons_zero, List.getElem?_cons_succ] at g0 g2 g3 g4
      obtain rfl : n = evs0.length := by
        rcases ev5.2 with ⟨h1, h2⟩ | ⟨_, _, _, h1, _⟩
        · injection h1 with _ h1 _; omega
        · injection h1 with _ h1 _
      have hB5 : w.heap.size ≤ w5.heap.size := kp5.size
      have hlen : evs0.length + r.length + 1 ≤ evs.length + ls'.length := by have := HR.out.2.2.1; simp at this; omega
      have IM5 := Lib.hid im5
      have EV5 := Lib.hid ev5
      have KP5 := Lib.hid kp5
      have HLEN := Lib.hid hlen
      have hle2 : evs0.length < 100000000 := by have := HBIG.out; omega
      clear im5 ev5 kp5 hs5 fr5 f0 f2 f3 f4 z4 hlen
      go_wp2_with (at_builtin; go_loud (refine wpList_app rfl _ _ 59 rfl w.heap.size 67 _ 7 56 Try.underlying59 info_ev rfl (by omega) A evs0.length c (evCells evs0) rfl (own_alloc EV5.out _) _ 1 1 (Ev.cells ⟨5, at', Hd.zero, 0⟩) rfl (reads_lit (heap_new (by simp)) rfl) (by simp [Ev.cells, Value.oneCell']) (by unfold maxLen; omega) (by omega) (by first | omega | (simp; omega)) ?_; intro A3 c3 w6 hown hgr hkp hat; have HOWN := Lib.hid hown; have HGR := Lib.hid hgr; clear hown hgr hkp hat))
      have k6 : Fr (fun k => some k = (Value.slice A evs0.length c).ownBlock) w5 w6 := ((Fr.refl _ w5).alloc _).grown HGR.out (fun k _ e => e)
      obtain ⟨cs6, hcs6⟩ := IM5.out.stk.blk_
      have im6 := IM5.out.keep k6 (own_ne EV5.out IM5.out.blk (by decide)) (own_ne EV5.out hcs6 (by decide)) (own_ne EV5.out IM5.out.rdr.1 (by decide)) (own_own IM5.out.rdr.2.2 EV5.out (by decide)) (own_own IM5.out.row EV5.out (by decide))
      have kp6 := (KP5.out.alloc _).grown HGR.out (own_alloc EV5.out _) hB (.inr (Nat.le_refl _))
      go_roundg r.length
      case measure => simp at hk; omega
      case rel => exact ⟨r, evs0 ++ [⟨5, at', Hd.zero, 0⟩], Nat.le_refl _, ⟨A3, _, c3, rfl⟩, Lib.hid ⟨im6, by rw [EvRow, evCells_append, List.length_append]; exact HOWN.out, by have := HLEN.out; simp; omega, kp6, by rw [HR.out.2.2.2.2.1]; simp [mExits], by rw [HR.out.2.2.2.2.2]; simp [mExits]⟩⟩
    · have hls : stLeave ls = (false, ls) := by
        cases ls with
        | nil => rfl
        | cons x r => simp only [stLeave]; rw [if_neg]; intro e; subst e; exact hz ⟨r, rfl⟩
      have hex : mExits at' ls = ([], ls) := by
        cases ls with
        | nil => rfl
        | cons x r => simp only [mExits]; rw [if_neg]; intro e; subst e; exact hz ⟨r, rfl⟩
      rw [hls] at slv
      simp only at slv
      have SLV := Lib.hid slv
      have HEX := Lib.hid hex
      clear slv him hls hex hz
      go_wp2_with fail
      refine SLV.out.mono ?_
      rintro e w5 ⟨rfl, hs5, fr5⟩
      have im5 := HR.out.1.stack fr5 hs5
      obtain ⟨cs5, hcs5⟩ := HR.out.1.stk.blk_
      have ev5 : EvRow w5 w.heap.size (.slice A n c) evs0 := fr5.own HR.out.2.1 (own_far HR.out.2.1 hcs5 (by decide))
      clear hcs5
      have kp5 := HR.out.2.2.2.1.trans (HR.out.1.kp fr5 (fun i _ e => .inr (.inl e)))
      have g4 := blk_cell im5.blk 4
      have z5 := blk_frozen im5.blk 4
      simp only [List.getElem?_toArray, List.getElem?_cons_zero, List.getElem?_cons_succ] at g4
      have IM5 := Lib.hid im5
      have EV5 := Lib.hid ev5
      have KP5 := Lib.hid kp5
      clear im5 ev5 kp5 hs5 fr5 f0 f2 f3 f4 z4
      go_wp2_with fail
      go_ret2
      have e1 := HR.out.2.2.2.2.1
      have e2 := HR.out.2.2.2.2.2
      rw [HEX.out] at e1 e2
      simp only [List.append_nil] at e1 e2
      rw [e1, e2]
      have ev : EvRow (w5.setCell ⟨gm, 4, none⟩ (.int .i64 (at' + 1))) w.heap.size (.slice A n c) evs0 := own_setCell EV5.out (own_ne EV5.out IM5.out.blk (by decide)) (p := ⟨gm, 4, none⟩) _
      exact ⟨KP5.out.setCell IM5.out.blk IM5.out.ge (.inl (by simp [mT])), fun h => absurd rfl h, fun _ => ⟨_, rfl, ev, _, _, _, _, IM5.out.at__ _⟩⟩
end
end Go.Proofs.Ytkabmmpccfeffaa
