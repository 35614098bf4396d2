/- Layer 9 (event.Machine): step. -/
import Derived.Test.YtkabmmpccfeffaaVContent
namespace Go.Proofs.Ytkabmmpccfeffaa
open Go.RowKit
set_option linter.unusedVariables false
set_option linter.unusedSimpArgs false

/-- A Machine's state, as long as nothing was wrong. -/
structure MS where
  lefts : List Int
  leaf : Int
  came : List Int
  begun : Bool
  at_ : Int
def IsMS (w : World) (B gm most : Nat) (s : MS) : Prop := ∃ go gh vr vm, IsM w B gm go gh vr vm most s.lefts s.leaf s.came s.came s.begun s.at_
def mStep (most : Nat) (s : MS) (b : Int) : Int × List Ev × MS :=
  if 0 < s.leaf then (0, mByte s.leaf s.at_ b, { s with lefts := (stTake s.lefts).2, leaf := s.leaf - 1 })
  else if (stTake s.lefts).1 = 0 then
    if (headRes (strOfNums (s.came ++ [b]))).1 = 0 then
      ((mBegin most (stTake s.lefts).2 s.leaf s.at_ (headRes (strOfNums (s.came ++ [b]))).2.2).1, (mBegin most (stTake s.lefts).2 s.leaf s.at_ (headRes (strOfNums (s.came ++ [b]))).2.2).2.1,
        ⟨(mBegin most (stTake s.lefts).2 s.leaf s.at_ (headRes (strOfNums (s.came ++ [b]))).2.2).2.2.1, (mBegin most (stTake s.lefts).2 s.leaf s.at_ (headRes (strOfNums (s.came ++ [b]))).2.2).2.2.2, [], true, s.at_⟩)
    else if (headRes (strOfNums (s.came ++ [b]))).1 = 2 then (0, [], { s with lefts := (stTake s.lefts).2, came := s.came ++ [b] })
    else ((headRes (strOfNums (s.came ++ [b]))).1, [], s)
  else ((stTake s.lefts).1, [], s)
def StepPost (w : World) (B gm most : Nat) (r : Int × List Ev × MS) (e : Ending) (w' : World) : Prop :=
  Kp B mT w w' ∧ (r.1 ≠ 0 → e = .returned (.tuple #[.slice none 0 0, .int .i64 r.1]) ∧ HasM w' gm) ∧
  (r.1 = 0 → ∃ v, e = .returned (.tuple #[v, .int .i64 0]) ∧ EvRow w' w.heap.size v r.2.1 ∧ IsMS w' B gm most r.2.2)

theorem lenGo_len (b : ByteArray) (c k : Nat) : ∀ (r : Nat) (n : Int), 0 ≤ n → 0 ≤ (lenGo b c k r n).2.2 ∧ (lenGo b c k r n).2.2 ≤ 2305843009213693951 := by
  intro r
  induction r with
  | zero => intro n hn; simp only [lenGo]; split <;> simp <;> omega
  | succ r ih =>
    intro n hn
    simp only [lenGo]
    split
    · simp
    · split
      · simp
      · exact ih _ (by have := bt_range b (k + 1 + (c - (r + 1) : Int)); omega)
theorem lenRes_len (b : ByteArray) (k : Nat) : 0 ≤ (lenRes b k).2.2 ∧ (lenRes b k).2.2 ≤ 2305843009213693951 := by
  unfold lenRes
  have := bt_range b k
  split
  · simp
  · split
    · simp only; omega
    · split
      · simp
      · exact lenGo_len b _ k _ 0 (by omega)
theorem headRes_len (b : ByteArray) : 0 ≤ (headRes b).2.2.len ∧ (headRes b).2.2.len ≤ 2305843009213693951 := by
  unfold headRes
  split
  · split
    · exact lenRes_len _ _
    · simp [Hd.zero]
  · simp [Hd.zero]

section
variable {w : World} {B gm go gh : Nat} {vr vm : Value} {most : Nat} {lefts : List Int} {leaf : Int} {came : List Int} {begun : Bool} {at_ : Int}
set_option maxRecDepth 100000 in
set_option maxHeartbeats 2000000 in
theorem mstep_leaf (h : IsM w B gm go gh vr vm most lefts leaf came came begun at_) (hB : B ≤ w.heap.size) (b : Int) (h0l : 0 < leaf) (h1l : leaf ≤ 2305843009213693951) :
    Calls Try.prog 110 #[.pointer (some ⟨gm, 0, none⟩), .int .u8 b] w (StepPost w B gm most (mStep most ⟨lefts, leaf, came, begun, at_⟩ b)) := by
  have h3 := blk_cell h.blk 3
  simp only [List.getElem?_toArray, List.getElem?_cons_zero, List.getElem?_cons_succ] at h3
  have CON := Lib.hid (mcontent_any h hB b h0l h1l)
  have e1 : mStep most ⟨lefts, leaf, came, begun, at_⟩ b = (0, mByte leaf at_ b, ⟨(stTake lefts).2, leaf - 1, came, begun, at_⟩) := by unfold mStep; rw [if_pos h0l]
  rw [e1]
  clear h e1
  go_enter Try.func110, Try.ntmps110
  go_wp2_with fail
  refine CON.out.mono ?_
  rintro e w2 ⟨hk, v, rfl, hev, him⟩
  have HK := Lib.hid hk
  have HE := Lib.hid hev
  have HI := Lib.hid him
  clear hk hev him
  go_wp2_with fail
  go_ret2
  exact ⟨HK.out, fun h => absurd rfl h, fun _ => ⟨_, rfl, HE.out, _, _, _, _, HI.out⟩⟩

set_option maxRecDepth 100000 in
set_option maxHeartbeats 2000000 in
theorem mstep_fit (h : IsM w B gm go gh vr vm most lefts leaf came came begun at_) (hB : B ≤ w.heap.size) (b : Int) (h0l : leaf = 0) (ht : (stTake lefts).1 ≠ 0) :
    Calls Try.prog 110 #[.pointer (some ⟨gm, 0, none⟩), .int .u8 b] w (StepPost w B gm most (mStep most ⟨lefts, leaf, came, begun, at_⟩ b)) := by
  subst h0l
  have h0 := blk_cell h.blk 0
  have h3 := blk_cell h.blk 3
  simp only [List.getElem?_toArray, List.getElem?_cons_zero, List.getElem?_cons_succ] at h0 h3
  have e1 : mStep most ⟨lefts, 0, came, begun, at_⟩ b = ((stTake lefts).1, [], ⟨lefts, 0, came, begun, at_⟩) := by simp [mStep, ht]
  rw [e1]
  have stk := stake_any h.stk
  generalize stTake lefts = tk at stk ht ⊢
  obtain ⟨er, ls'⟩ := tk
  simp only at stk ht ⊢
  have he1 : (er != 0) = true := bne_iff_ne.2 ht
  have STK := Lib.hid stk
  have HH := Lib.hid h
  have HT := Lib.hid ht
  clear h stk ht e1
  go_enter Try.func110, Try.ntmps110
  go_wp2_with fail
  refine STK.out.mono ?_
  rintro e w2 ⟨rfl, hs2, fr2⟩
  have FR2 := Lib.hid fr2
  have IM2 := Lib.hid (HH.out.stack fr2 hs2)
  clear hs2 fr2
  go_wp2_with fail
  go_ret2
  exact ⟨HH.out.kp FR2.out (fun i _ e => .inr (.inl e)), fun _ => ⟨rfl, IM2.out.has⟩, fun h => absurd h HT.out⟩
set_option maxRecDepth 100000 in
set_option maxHeartbeats 2000000 in
theorem mstep_head (h : IsM w B gm go gh vr vm most lefts leaf came came begun at_) (hB : B ≤ w.heap.size) (b : Int) (h0l : leaf = 0) (ht : (stTake lefts).1 = 0) (hcl : came.length < 999999) :
    Calls Try.prog 110 #[.pointer (some ⟨gm, 0, none⟩), .int .u8 b] w (StepPost w B gm most (mStep most ⟨lefts, leaf, came, begun, at_⟩ b)) := by
  subst h0l
  have h0 := blk_cell h.blk 0
  have h3 := blk_cell h.blk 3
  simp only [List.getElem?_toArray, List.getElem?_cons_zero, List.getElem?_cons_succ] at h0 h3
  obtain ⟨A, c, rfl⟩ := own_slice h.row
  have hhl := headRes_len (strOfNums (came ++ [b]))
  have rdp := fun (W : World) (vr' : Value) (k : IsReader W B gh vr' came) (hb : B ≤ W.heap.size) => rdpush_ok k b hcl hb
  have stk := stake_any h.stk
  unfold RdPost at rdp
  unfold mStep
  generalize headRes (strOfNums (came ++ [b])) = R at hhl rdp ⊢
  generalize stTake lefts = tk at stk ht ⊢
  obtain ⟨er, ls'⟩ := tk
  simp only at stk ht
  subst ht
  obtain ⟨er, nx, hh⟩ := R
  simp only [Int.lt_irrefl, if_false, if_true] at hhl rdp ⊢
  have key : er = 0 ∨ er = 2 ∨ (er ≠ 0 ∧ er ≠ 2) := by omega
  have STK := Lib.hid stk
  have RDP := Lib.hid rdp
  have HH := Lib.hid h
  clear h stk rdp
  rcases key with rfl | rfl | ⟨q1, q2⟩
  · skip
    go_enter Try.func110, Try.ntmps110
    go_wp2_with fail
    refine STK.out.mono ?_
    rintro e w2 ⟨rfl, hs2, fr2⟩
    have im2 := HH.out.stack fr2 hs2
    have fr2' : Fr (fun k => k = gm ∨ k = go ∨ k = gh ∨ some k = vr.ownBlock ∨ some k = (Value.slice A came.length c).ownBlock) w w2 := fr2.mono (fun i _ e => .inr (.inl e))
    have g2 := blk_cell im2.blk 2
    have y2 := blk_frozen im2.blk 2
    have hg2 := im2.lt.1
    have hsz := fr2'.size
    simp only [List.getElem?_toArray, List.getElem?_cons_zero, List.getElem?_cons_succ] at g2
    have IM2 := Lib.hid im2
    have FR2 := Lib.hid fr2'
    clear im2 fr2 fr2' hs2 h0 h3
    go_wp2_with (at_builtin; go_loud (refine wpList_app rfl _ _ 93 rfl B 5 _ 1 1 Try.underlying93 info_byte rfl (by omega) A came.length c (nums came) rfl (IM2.out.row.alloc _) _ 1 1 [.int .u8 b] rfl (reads_at1 (heap_new (by simp))) (by simp [Value.oneCell']) (by unfold maxLen; omega) (by omega) (by first | omega | (simp; done) | (simp; omega)) ?_; intro A3 c3 w3 hown hgr _ hat; have HB3 := Lib.hid (blk_grown (blk_alloc IM2.out.blk _) hgr IM2.out.vm_gm); have f0 := blk_cell HB3.out 0; have f1 := blk_cell HB3.out 1; have f2 := blk_cell HB3.out 2; have z2 := blk_frozen HB3.out 2; simp only [List.getElem?_toArray, List.getElem?_cons_succ, List.getElem?_cons_zero] at f0 f1 f2; have hz3 : w2.heap.size < w3.heap.size := (by have := hgr.size; simp at this; omega); have HOWN := Lib.hid hown; have HGR := Lib.hid hgr; have HAT := Lib.hid hat; clear hown hgr hat))
    have k3 : Fr (fun k => some k = (Value.slice A came.length c).ownBlock) w2 w3 := ((Fr.refl _ w2).alloc _).grown HGR.out (fun k _ e => e)
    have im4 := IM2.out.came k3 (vm' := .slice A3 (came.length + 1) c3) (cm' := came ++ [b]) (HAT.out.elim .inl fun h => .inr ⟨_, h, by simp⟩) (by rw [nums_append, List.length_append]; exact HOWN.out)
    have fr4 := ((FR2.out.alloc _).grown HGR.out (fun k _ e => .inr (.inr (.inr (.inr e))))).setCell (p := ⟨gm, 2, none⟩) (fun _ => .inl rfl) (.slice A3 (came.length + 1) c3)
    refine (RDP.out _ _ im4.rdr (Nat.le_trans hB fr4.size)).mono ?_
    rintro e w5 ⟨fr5, v', hv', p0, p2, pe⟩
    have fr5' := fr4.trans fr5 (fun i _ e => e.elim (fun e => .inr (.inr (.inl e))) (fun e => .inr (.inr (.inr (.inl e)))))
    have FR5 := Lib.hid fr5'
    obtain ⟨rfl, hr5⟩ := p0 (by simp)
    have IM5 := Lib.hid (im4.reader fr5 hv' hr5)
    clear im4 fr4 fr5 fr5' hv' p0 p2 pe hr5 k3 f0 f1 f2 z2
    have hg5 := IM5.out.lt.1
    simp only [Hd.val, hd]
    go_wp2_with fail
    have b5 := (Below.refl w5.heap.size w5).alloc (Nat.le_refl _) (.cells #[.int .i64 hh.cl, .int .i64 hh.tag, .bool hh.cons, .int .i64 hh.len] 65)
    refine (mbegin_any (IM5.out.below b5) (Nat.le_trans hB (Nat.le_trans FR5.out.size b5.size)) hh hhl.1 hhl.2).mono ?_
    rintro e w7 ⟨hk, ha, hb⟩
    have HK := Lib.hid (((HH.out.kp FR5.out (fun i _ h => h)).trans (Kp.of_below b5 (Nat.le_trans hB FR5.out.size))).trans hk)
    by_cases he : (mBegin most ls' 0 at_ hh).1 = 0
    · obtain ⟨v, vm2, rfl, hev, him⟩ := hb he
      have HE := Lib.hid hev
      have HI := Lib.hid him
      have HER := Lib.hid he
      clear ha hb hk hev him he
      go_wp2_with fail
      go_ret2
      exact ⟨HK.out, fun h => absurd HER.out h, fun _ => ⟨_, rfl, own_weaken HE.out (Nat.le_trans FR5.out.size b5.size), _, _, _, _, HI.out⟩⟩
    · obtain ⟨rfl, hm⟩ := ha he
      have HM := Lib.hid hm
      have HER := Lib.hid he
      clear ha hb hk he hm
      go_wp2_with fail
      go_ret2
      exact ⟨HK.out, fun h => ⟨rfl, HM.out⟩, fun h => absurd h HER.out⟩
  · skip
    go_enter Try.func110, Try.ntmps110
    go_wp2_with fail
    refine STK.out.mono ?_
    rintro e w2 ⟨rfl, hs2, fr2⟩
    have im2 := HH.out.stack fr2 hs2
    have fr2' : Fr (fun k => k = gm ∨ k = go ∨ k = gh ∨ some k = vr.ownBlock ∨ some k = (Value.slice A came.length c).ownBlock) w w2 := fr2.mono (fun i _ e => .inr (.inl e))
    have g2 := blk_cell im2.blk 2
    have y2 := blk_frozen im2.blk 2
    have hg2 := im2.lt.1
    have hsz := fr2'.size
    simp only [List.getElem?_toArray, List.getElem?_cons_zero, List.getElem?_cons_succ] at g2
    have IM2 := Lib.hid im2
    have FR2 := Lib.hid fr2'
    clear im2 fr2 fr2' hs2 h0 h3
    go_wp2_with (at_builtin; go_loud (refine wpList_app rfl _ _ 93 rfl B 5 _ 1 1 Try.underlying93 info_byte rfl (by omega) A came.length c (nums came) rfl (IM2.out.row.alloc _) _ 1 1 [.int .u8 b] rfl (reads_at1 (heap_new (by simp))) (by simp [Value.oneCell']) (by unfold maxLen; omega) (by omega) (by first | omega | (simp; done) | (simp; omega)) ?_; intro A3 c3 w3 hown hgr _ hat; have HB3 := Lib.hid (blk_grown (blk_alloc IM2.out.blk _) hgr IM2.out.vm_gm); have f0 := blk_cell HB3.out 0; have f1 := blk_cell HB3.out 1; have f2 := blk_cell HB3.out 2; have z2 := blk_frozen HB3.out 2; simp only [List.getElem?_toArray, List.getElem?_cons_succ, List.getElem?_cons_zero] at f0 f1 f2; have hz3 : w2.heap.size < w3.heap.size := (by have := hgr.size; simp at this; omega); have HOWN := Lib.hid hown; have HGR := Lib.hid hgr; have HAT := Lib.hid hat; clear hown hgr hat))
    have k3 : Fr (fun k => some k = (Value.slice A came.length c).ownBlock) w2 w3 := ((Fr.refl _ w2).alloc _).grown HGR.out (fun k _ e => e)
    have im4 := IM2.out.came k3 (vm' := .slice A3 (came.length + 1) c3) (cm' := came ++ [b]) (HAT.out.elim .inl fun h => .inr ⟨_, h, by simp⟩) (by rw [nums_append, List.length_append]; exact HOWN.out)
    have fr4 := ((FR2.out.alloc _).grown HGR.out (fun k _ e => .inr (.inr (.inr (.inr e))))).setCell (p := ⟨gm, 2, none⟩) (fun _ => .inl rfl) (.slice A3 (came.length + 1) c3)
    refine (RDP.out _ _ im4.rdr (Nat.le_trans hB fr4.size)).mono ?_
    rintro e w5 ⟨fr5, v', hv', p0, p2, pe⟩
    have fr5' := fr4.trans fr5 (fun i _ e => e.elim (fun e => .inr (.inr (.inl e))) (fun e => .inr (.inr (.inr (.inl e)))))
    have FR5 := Lib.hid fr5'
    obtain ⟨rfl, hr5⟩ := p2 (by simp)
    have IM5 := Lib.hid (im4.reader fr5 hv' hr5)
    clear im4 fr4 fr5 fr5' hv' p0 p2 pe hr5 k3 f0 f1 f2 z2
    simp only [Hd.val, hd, Hd.zero]
    go_wp2_with fail
    go_ret2
    have b5 := (Below.refl w5.heap.size w5).alloc (Nat.le_refl _) (.cells #[.int .i64 0, .int .i64 0, .bool false, .int .i64 0] 65)
    exact ⟨(HH.out.kp FR5.out (fun i _ h => h)).trans (Kp.of_below b5 (Nat.le_trans hB FR5.out.size)), fun h => absurd rfl h, fun _ => ⟨_, rfl, World.ownsRow_nil _ _ _ _, _, _, _, _, IM5.out.below b5⟩⟩
  · simp only [if_neg q1, if_neg q2]
    go_enter Try.func110, Try.ntmps110
    go_wp2_with fail
    refine STK.out.mono ?_
    rintro e w2 ⟨rfl, hs2, fr2⟩
    have im2 := HH.out.stack fr2 hs2
    have fr2' : Fr (fun k => k = gm ∨ k = go ∨ k = gh ∨ some k = vr.ownBlock ∨ some k = (Value.slice A came.length c).ownBlock) w w2 := fr2.mono (fun i _ e => .inr (.inl e))
    have g2 := blk_cell im2.blk 2
    have y2 := blk_frozen im2.blk 2
    have hg2 := im2.lt.1
    have hsz := fr2'.size
    simp only [List.getElem?_toArray, List.getElem?_cons_zero, List.getElem?_cons_succ] at g2
    have IM2 := Lib.hid im2
    have FR2 := Lib.hid fr2'
    clear im2 fr2 fr2' hs2 h0 h3
    go_wp2_with (at_builtin; go_loud (refine wpList_app rfl _ _ 93 rfl B 5 _ 1 1 Try.underlying93 info_byte rfl (by omega) A came.length c (nums came) rfl (IM2.out.row.alloc _) _ 1 1 [.int .u8 b] rfl (reads_at1 (heap_new (by simp))) (by simp [Value.oneCell']) (by unfold maxLen; omega) (by omega) (by first | omega | (simp; done) | (simp; omega)) ?_; intro A3 c3 w3 hown hgr _ hat; have HB3 := Lib.hid (blk_grown (blk_alloc IM2.out.blk _) hgr IM2.out.vm_gm); have f0 := blk_cell HB3.out 0; have f1 := blk_cell HB3.out 1; have f2 := blk_cell HB3.out 2; have z2 := blk_frozen HB3.out 2; simp only [List.getElem?_toArray, List.getElem?_cons_succ, List.getElem?_cons_zero] at f0 f1 f2; have hz3 : w2.heap.size < w3.heap.size := (by have := hgr.size; simp at this; omega); have HOWN := Lib.hid hown; have HGR := Lib.hid hgr; have HAT := Lib.hid hat; clear hown hgr hat))
    have k3 : Fr (fun k => some k = (Value.slice A came.length c).ownBlock) w2 w3 := ((Fr.refl _ w2).alloc _).grown HGR.out (fun k _ e => e)
    have im4 := IM2.out.came k3 (vm' := .slice A3 (came.length + 1) c3) (cm' := came ++ [b]) (HAT.out.elim .inl fun h => .inr ⟨_, h, by simp⟩) (by rw [nums_append, List.length_append]; exact HOWN.out)
    have fr4 := ((FR2.out.alloc _).grown HGR.out (fun k _ e => .inr (.inr (.inr (.inr e))))).setCell (p := ⟨gm, 2, none⟩) (fun _ => .inl rfl) (.slice A3 (came.length + 1) c3)
    refine (RDP.out _ _ im4.rdr (Nat.le_trans hB fr4.size)).mono ?_
    rintro e w5 ⟨fr5, v', hv', p0, p2, pe⟩
    have fr5' := fr4.trans fr5 (fun i _ e => e.elim (fun e => .inr (.inr (.inl e))) (fun e => .inr (.inr (.inr (.inl e)))))
    have FR5 := Lib.hid fr5'
    obtain rfl := pe q1 q2
    have he1 : (er != 0) = true := bne_iff_ne.2 q1
    have Q1 := Lib.hid q1
    have HM : Hid (HasM w5 gm) := Lib.hid ⟨_, fr5.blk im4.blk (fun e => e.elim im4.gm_gh im4.vr_gm), rfl⟩
    clear im4 fr4 fr5 fr5' hv' p0 p2 pe k3 f0 f1 f2 z2
    simp only [Hd.val, hd, Hd.zero]
    clear q1 q2
    go_wp2_with fail
    go_ret2
    have b5 := (Below.refl w5.heap.size w5).alloc (Nat.le_refl _) (.cells #[.int .i64 0, .int .i64 0, .bool false, .int .i64 0] 65)
    exact ⟨(HH.out.kp FR5.out (fun i _ h => h)).trans (Kp.of_below b5 (Nat.le_trans hB FR5.out.size)), fun h => ⟨rfl, HM.out.below b5⟩, fun h => absurd h Q1.out⟩
theorem mstep_any (h : IsM w B gm go gh vr vm most lefts leaf came came begun at_) (hB : B ≤ w.heap.size) (b : Int) (h0l : 0 ≤ leaf) (h1l : leaf ≤ 2305843009213693951) (hcl : came.length < 999999) :
    Calls Try.prog 110 #[.pointer (some ⟨gm, 0, none⟩), .int .u8 b] w (StepPost w B gm most (mStep most ⟨lefts, leaf, came, begun, at_⟩ b)) := by
  by_cases hl : 0 < leaf
  · exact mstep_leaf h hB b hl h1l
  · by_cases ht : (stTake lefts).1 = 0
    · exact mstep_head h hB b (by omega) ht hcl
    · exact mstep_fit h hB b (by omega) ht
end
end Go.Proofs.Ytkabmmpccfeffaa
