/- Layer 7 (head.Reader): by contracts, as long as nothing was wrong. -/
import Derived.Test.YtkabmmpccfeffaaVHead
import Derived.Test.YtkabmmpccfeffaaVStack2
import Derived.Test.YtkabmmpccfeffaaApp
import Derived.Outline
namespace Go.Proofs.Ytkabmmpccfeffaa
open Go.RowKit
set_option linter.unusedVariables false
set_option linter.unusedSimpArgs false

theorem info_byte : (Try.prog.info? 5).map (fun i => (i.zero, i.size, i.bytes)) = some (some (.int .u8 0), 1, 1) := by kernel_rfl
theorem fr4 {S : Nat → Prop} {w w1 : World} (h : Fr S w w1) {g : Nat} (hg : w.heap.size ≤ g) (x y z u : Value) :
    Fr S w ((((w1.setCell ⟨g, 0, none⟩ x).setCell ⟨g, 1, none⟩ y).setCell ⟨g, 2, none⟩ z).setCell ⟨g, 3, none⟩ u) :=
  have hn : ∀ {p : Addr}, p.block = g → p.block < w.heap.size → S p.block := fun e h => absurd h (by omega)
  (((h.setCell (hn rfl) _).setCell (hn rfl) _).setCell (hn rfl) _).setCell (hn rfl) _
theorem far4 {w : World} {k g : Nat} {t : TypeId} {cs : Array Value} (hb : w.heap[k]? = some (.cells cs t (0, 0))) (hk : k ≠ g) (x y z u : Value) :
    ((((w.setCell ⟨g, 0, none⟩ x).setCell ⟨g, 1, none⟩ y).setCell ⟨g, 2, none⟩ z).setCell ⟨g, 3, none⟩ u).heap[k]? = some (.cells cs t (0, 0)) :=
  blk_far (blk_far (blk_far (blk_far hb hk _) hk _) hk _) hk _
theorem own_set4 {w : World} {base n size g : Nat} {e : TypeId} {v : Value} {xs : List Value} (h : w.ownsRow base e size v n xs) (hne : some g ≠ v.ownBlock) (x y z u : Value) :
    ((((w.setCell ⟨g, 0, none⟩ x).setCell ⟨g, 1, none⟩ y).setCell ⟨g, 2, none⟩ z).setCell ⟨g, 3, none⟩ u).ownsRow base e size v n xs :=
  own_setCell (own_setCell (own_setCell (own_setCell h hne _) hne _) hne _) hne _
theorem own_alloc {w : World} {base n size : Nat} {e : TypeId} {v : Value} {xs : List Value} (h : w.ownsRow base e size v n xs) (o : Obj) : (w.alloc o).ownsRow base e size v n xs := h.alloc o
/-- A Reader lies at block g: v is the row of the bytes that came. -/
def IsReader (w : World) (B g : Nat) (v : Value) (came : List Int) : Prop :=
  w.heap[g]? = some (.cells #[v, .int .i64 0] 226 (0, 0)) ∧ B ≤ g ∧ w.ownsRow B 5 1 v came.length (nums came)
section
variable {w w' : World} {B g : Nat} {v : Value} {came : List Int}
theorem IsReader.keep {S : Nat → Prop} (h : IsReader w B g v came) (hk : Fr S w w') (hg : ¬ S g) (hv : ∀ k, some k = v.ownBlock → ¬ S k) : IsReader w' B g v came :=
  ⟨hk.blk h.1 hg, h.2.1, hk.own h.2.2 hv⟩
theorem IsReader.below (h : IsReader w B g v came) (hk : Below w.heap.size w w') : IsReader w' B g v came :=
  h.keep (Fr.of_below (S := fun _ => False) hk) (fun h => h) (fun _ _ h => h)
end
/-- What a Reader tells of a byte more. -/
def RdPost (w : World) (B g : Nat) (v : Value) (came : List Int) (b : Int) (e : Ending) (w' : World) : Prop :=
  Fr (fun k => k = g ∨ some k = v.ownBlock) w w' ∧
  ∃ v', (v'.ownBlock = v.ownBlock ∨ ∃ k, v'.ownBlock = some k ∧ w.heap.size ≤ k) ∧
    ((headRes (strOfNums (came ++ [b]))).1 = 0 → e = .returned (.tuple #[(headRes (strOfNums (came ++ [b]))).2.2.val, .bool true, .int .i64 0]) ∧ IsReader w' B g v' []) ∧
    ((headRes (strOfNums (came ++ [b]))).1 = 2 → e = .returned (.tuple #[Hd.zero.val, .bool false, .int .i64 0]) ∧ IsReader w' B g v' (came ++ [b])) ∧
    ((headRes (strOfNums (came ++ [b]))).1 ≠ 0 → (headRes (strOfNums (came ++ [b]))).1 ≠ 2 → e = .returned (.tuple #[Hd.zero.val, .bool false, .int .i64 (headRes (strOfNums (came ++ [b]))).1]))

set_option maxRecDepth 100000 in
set_option maxHeartbeats 1000000 in
theorem rdpush_ok {w : World} {B g : Nat} {v : Value} {came : List Int} (h : IsReader w B g v came) (b : Int) (hl : came.length < 999999) (hB : B ≤ w.heap.size) :
    Calls Try.prog 151 #[.pointer (some ⟨g, 0, none⟩), .int .u8 b] w (RdPost w B g v came b) := by
  obtain ⟨hb, hg, ho⟩ := h
  obtain ⟨A, c, rfl⟩ := own_slice ho
  have h0 : w.cell? ⟨g, 0, none⟩ = some (.slice A came.length c) := blk_cell hb 0
  have h1 : w.cell? ⟨g, 1, none⟩ = some (.int .i64 0) := blk_cell hb 1
  have hgl := blk_lt hb
  have HB := Lib.hid hb
  have HO := Lib.hid ho
  clear hb ho
  have hne : some w.heap.size ≠ (Value.slice A came.length c).ownBlock := by
    intro e; have := (HO.out.lt _ e.symm).2; omega
  have HNE := Lib.hid hne
  have hsz : (strOfNums (came ++ [b])).size ≤ 1000000 := by rw [strOfNums_size]; simp; omega
  have hga := fun W => head_any W (strOfNums (came ++ [b])) hsz
  unfold HeadAny Hd.val hd at hga
  unfold RdPost Hd.val hd Hd.zero
  generalize headRes (strOfNums (came ++ [b])) = R at hga ⊢
  obtain ⟨er, nx, hh⟩ := R
  simp only at hga ⊢
  have HGA := Lib.hid hga
  clear hne hga hsz
  have key : er = 0 ∨ er = 2 ∨ (er ≠ 0 ∧ er ≠ 2) := by omega
  rcases key with rfl | rfl | ⟨q1, q2⟩
  · skip
    go_enter Try.func151, Try.ntmps151
    go_wp2_with (at_builtin; go_loud (refine wpList_app rfl (.tmp 24) (.tmp 26) 93 rfl B 5 _ 1 1 Try.underlying93 info_byte rfl (by omega) A came.length c (nums came) rfl ((HO.out.alloc _).alloc _) _ 1 1 [.int .u8 b] rfl (reads_at1 (heap_new (by simp))) (by simp [Value.oneCell']) (by unfold maxLen; omega) (by omega) (by first | omega | (simp; done) | (simp; omega)) ?_; intro A3 c3 w1 hown hgr _ hat; have HB1 := Lib.hid (blk_grown (blk_alloc (blk_alloc HB.out _) _) hgr (own_ne HO.out HB.out (by decide))); have HZ1 := Lib.hid (blk_grown (blk_alloc (heap_alloc_new w _) _) hgr HNE.out); have f0 := blk_cell HB1.out 0; have f1 := blk_cell HB1.out 1; have z0 := blk_frozen HB1.out 0; have z1 := blk_frozen HB1.out 1; obtain ⟨a0, a1, a2, a3, a4, a5, a6, a7⟩ := blk4 HZ1.out; simp only [List.getElem?_toArray, List.getElem?_cons_succ, List.getElem?_cons_zero] at f0 f1; have hz1 : w.heap.size + 1 < w1.heap.size := (by have := hgr.size; simp at this; omega); have HOWN := Lib.hid hown; have HGR := Lib.hid hgr; have HAT := Lib.hid hat; have hcv := own_string (P := Try.prog) Try.underlying93 Try.underlying5 Try.underlying9 (xs := came ++ [b]) (by rw [nums_append]; exact own_setCell hown (own_ne hown HB1.out (by decide)) (p := ⟨g, 0, none⟩) (.slice A3 (came.length + 1) c3)); clear hown hgr hat))
    refine (HGA.out _).mono ?_
    rintro e w2 ⟨rfl, hb2⟩
    have HB2 := Lib.hid ((hb2.block g (by simp [World.setCell]; omega)).trans (blk_set HB1.out 0 _))
    have HZ2 := Lib.hid ((hb2.block w.heap.size (by simp [World.setCell]; omega)).trans (blk_far HZ1.out (by simp; omega) _))
    have HFR : Hid (Fr (fun k => k = g ∨ some k = (Value.slice A came.length c).ownBlock) w w2) := Lib.hid ((((((Fr.refl _ w).alloc _).alloc _).grown HGR.out (fun k _ h => .inr h)).setCell (fun _ => .inl rfl) _).below hb2)
    have HO2 := Lib.hid ((Fr.of_below (S := fun _ => False) hb2).own (own_setCell HOWN.out (own_ne HOWN.out HB1.out (by decide)) (p := ⟨g, 0, none⟩) (.slice A3 (came.length + 1) c3)) (fun _ _ h => h))
    have g0 := blk_cell HB2.out 0
    have g1 := blk_cell HB2.out 1
    have y0 := blk_frozen HB2.out 0
    have y1 := blk_frozen HB2.out 1
    obtain ⟨d0, d1, d2, d3, d4, d5, d6, d7⟩ := blk4 HZ2.out
    have hz2 : w.heap.size + 1 < w2.heap.size := by have := hb2.size; simp [World.setCell] at this; omega
    have hg2 : g < w2.heap.size := by omega
    have hz3 : w.heap.size < w2.heap.size := by omega
    have HHB := Lib.hid hb2
    clear f0 f1 z0 z1 a0 a1 a2 a3 a4 a5 a6 a7 hcv hb2
    simp only [List.setIfInBounds_toArray, List.set_cons_zero, List.getElem?_toArray, List.getElem?_cons_zero, List.getElem?_cons_succ] at g0 g1
    go_wp2_with fail
    refine bodyPost_ret (results_cell_tmp2 rfl _ _ _ _ _ _ _ rfl (blk_alloc (set4 (blk_far HZ2.out (by simp; omega) _) _ _ _ _) _) Try.underlying65 rfl info_head) rfl ?_
    refine ⟨?_, .slice A3 0 c3, ?_, fun _ => ⟨rfl, ?_, hg, ?_⟩, fun h => absurd h (by decide), fun h => absurd rfl h⟩
    · have h1 := fun S (k : Fr S w w2) (hs : S g) => fr4 (k.setCell (p := ⟨g, 0, none⟩) (fun _ => hs) (.slice A3 0 c3)) (Nat.le_refl w.heap.size) (.int .i64 hh.cl) (.int .i64 hh.tag) (.bool hh.cons) (.int .i64 hh.len)
      exact (h1 _ HFR.out (.inl rfl)).alloc _
    · have e0 : (Value.slice A3 0 c3).ownBlock = (Value.slice A3 (came.length + 1) c3).ownBlock := by cases A3 <;> rfl
      rw [e0]
      exact HAT.out.elim .inl fun h => .inr ⟨_, h, by simp; omega⟩
    · exact blk_alloc (far4 (blk_set HB2.out 0 _) (by omega) _ _ _ _) _
    · have z := own_zero HO2.out
      exact own_alloc (own_set4 (own_setCell z (own_ne z HB2.out (by decide)) (p := ⟨g, 0, none⟩) _) (own_ne z HZ2.out (by decide)) _ _ _ _) _
  · skip
    go_enter Try.func151, Try.ntmps151
    go_wp2_with (at_builtin; go_loud (refine wpList_app rfl (.tmp 24) (.tmp 26) 93 rfl B 5 _ 1 1 Try.underlying93 info_byte rfl (by omega) A came.length c (nums came) rfl ((HO.out.alloc _).alloc _) _ 1 1 [.int .u8 b] rfl (reads_at1 (heap_new (by simp))) (by simp [Value.oneCell']) (by unfold maxLen; omega) (by omega) (by first | omega | (simp; done) | (simp; omega)) ?_; intro A3 c3 w1 hown hgr _ hat; have HB1 := Lib.hid (blk_grown (blk_alloc (blk_alloc HB.out _) _) hgr (own_ne HO.out HB.out (by decide))); have HZ1 := Lib.hid (blk_grown (blk_alloc (heap_alloc_new w _) _) hgr HNE.out); have f0 := blk_cell HB1.out 0; have f1 := blk_cell HB1.out 1; have z0 := blk_frozen HB1.out 0; have z1 := blk_frozen HB1.out 1; obtain ⟨a0, a1, a2, a3, a4, a5, a6, a7⟩ := blk4 HZ1.out; simp only [List.getElem?_toArray, List.getElem?_cons_succ, List.getElem?_cons_zero] at f0 f1; have hz1 : w.heap.size + 1 < w1.heap.size := (by have := hgr.size; simp at this; omega); have HOWN := Lib.hid hown; have HGR := Lib.hid hgr; have HAT := Lib.hid hat; have hcv := own_string (P := Try.prog) Try.underlying93 Try.underlying5 Try.underlying9 (xs := came ++ [b]) (by rw [nums_append]; exact own_setCell hown (own_ne hown HB1.out (by decide)) (p := ⟨g, 0, none⟩) (.slice A3 (came.length + 1) c3)); clear hown hgr hat))
    refine (HGA.out _).mono ?_
    rintro e w2 ⟨rfl, hb2⟩
    have HB2 := Lib.hid ((hb2.block g (by simp [World.setCell]; omega)).trans (blk_set HB1.out 0 _))
    have HZ2 := Lib.hid ((hb2.block w.heap.size (by simp [World.setCell]; omega)).trans (blk_far HZ1.out (by simp; omega) _))
    have HFR : Hid (Fr (fun k => k = g ∨ some k = (Value.slice A came.length c).ownBlock) w w2) := Lib.hid ((((((Fr.refl _ w).alloc _).alloc _).grown HGR.out (fun k _ h => .inr h)).setCell (fun _ => .inl rfl) _).below hb2)
    have HO2 := Lib.hid ((Fr.of_below (S := fun _ => False) hb2).own (own_setCell HOWN.out (own_ne HOWN.out HB1.out (by decide)) (p := ⟨g, 0, none⟩) (.slice A3 (came.length + 1) c3)) (fun _ _ h => h))
    have g0 := blk_cell HB2.out 0
    have g1 := blk_cell HB2.out 1
    have y0 := blk_frozen HB2.out 0
    have y1 := blk_frozen HB2.out 1
    obtain ⟨d0, d1, d2, d3, d4, d5, d6, d7⟩ := blk4 HZ2.out
    have hz2 : w.heap.size + 1 < w2.heap.size := by have := hb2.size; simp [World.setCell] at this; omega
    have hg2 : g < w2.heap.size := by omega
    have hz3 : w.heap.size < w2.heap.size := by omega
    have HHB := Lib.hid hb2
    clear f0 f1 z0 z1 a0 a1 a2 a3 a4 a5 a6 a7 hcv hb2
    simp only [List.setIfInBounds_toArray, List.set_cons_zero, List.getElem?_toArray, List.getElem?_cons_zero, List.getElem?_cons_succ] at g0 g1
    go_wp2_with fail
    refine bodyPost_ret (results_cell_tmp2 rfl _ _ _ _ _ _ _ rfl (blk_alloc (set4 HZ2.out _ _ _ _) _) Try.underlying65 rfl info_head) rfl ?_
    refine ⟨?_, .slice A3 (came.length + 1) c3, ?_, fun h => absurd h (by decide), fun _ => ⟨rfl, ?_, hg, ?_⟩, fun _ h => absurd rfl h⟩
    · exact (fr4 HFR.out (Nat.le_refl w.heap.size) _ _ _ _).alloc _
    · exact HAT.out.elim .inl fun h => .inr ⟨_, h, by simp; omega⟩
    · exact blk_alloc (far4 HB2.out (by omega) _ _ _ _) _
    · rw [nums_append, List.length_append]; exact own_alloc (own_set4 HO2.out (own_ne HO2.out HZ2.out (by decide)) _ _ _ _) _
  · have q3 : (er == 0) = false := beq_eq_false_iff_ne.2 q1
    have q4 : (er == 2) = false := beq_eq_false_iff_ne.2 q2
    go_enter Try.func151, Try.ntmps151
    go_wp2_with (at_builtin; go_loud (refine wpList_app rfl (.tmp 24) (.tmp 26) 93 rfl B 5 _ 1 1 Try.underlying93 info_byte rfl (by omega) A came.length c (nums came) rfl ((HO.out.alloc _).alloc _) _ 1 1 [.int .u8 b] rfl (reads_at1 (heap_new (by simp))) (by simp [Value.oneCell']) (by unfold maxLen; omega) (by omega) (by first | omega | (simp; done) | (simp; omega)) ?_; intro A3 c3 w1 hown hgr _ hat; have HB1 := Lib.hid (blk_grown (blk_alloc (blk_alloc HB.out _) _) hgr (own_ne HO.out HB.out (by decide))); have HZ1 := Lib.hid (blk_grown (blk_alloc (heap_alloc_new w _) _) hgr HNE.out); have f0 := blk_cell HB1.out 0; have f1 := blk_cell HB1.out 1; have z0 := blk_frozen HB1.out 0; have z1 := blk_frozen HB1.out 1; obtain ⟨a0, a1, a2, a3, a4, a5, a6, a7⟩ := blk4 HZ1.out; simp only [List.getElem?_toArray, List.getElem?_cons_succ, List.getElem?_cons_zero] at f0 f1; have hz1 : w.heap.size + 1 < w1.heap.size := (by have := hgr.size; simp at this; omega); have HOWN := Lib.hid hown; have HGR := Lib.hid hgr; have HAT := Lib.hid hat; have hcv := own_string (P := Try.prog) Try.underlying93 Try.underlying5 Try.underlying9 (xs := came ++ [b]) (by rw [nums_append]; exact own_setCell hown (own_ne hown HB1.out (by decide)) (p := ⟨g, 0, none⟩) (.slice A3 (came.length + 1) c3)); clear hown hgr hat))
    refine (HGA.out _).mono ?_
    rintro e w2 ⟨rfl, hb2⟩
    have HB2 := Lib.hid ((hb2.block g (by simp [World.setCell]; omega)).trans (blk_set HB1.out 0 _))
    have HZ2 := Lib.hid ((hb2.block w.heap.size (by simp [World.setCell]; omega)).trans (blk_far HZ1.out (by simp; omega) _))
    have HFR : Hid (Fr (fun k => k = g ∨ some k = (Value.slice A came.length c).ownBlock) w w2) := Lib.hid ((((((Fr.refl _ w).alloc _).alloc _).grown HGR.out (fun k _ h => .inr h)).setCell (fun _ => .inl rfl) _).below hb2)
    have HO2 := Lib.hid ((Fr.of_below (S := fun _ => False) hb2).own (own_setCell HOWN.out (own_ne HOWN.out HB1.out (by decide)) (p := ⟨g, 0, none⟩) (.slice A3 (came.length + 1) c3)) (fun _ _ h => h))
    have g0 := blk_cell HB2.out 0
    have g1 := blk_cell HB2.out 1
    have y0 := blk_frozen HB2.out 0
    have y1 := blk_frozen HB2.out 1
    obtain ⟨d0, d1, d2, d3, d4, d5, d6, d7⟩ := blk4 HZ2.out
    have hz2 : w.heap.size + 1 < w2.heap.size := by have := hb2.size; simp [World.setCell] at this; omega
    have hg2 : g < w2.heap.size := by omega
    have hz3 : w.heap.size < w2.heap.size := by omega
    have HHB := Lib.hid hb2
    clear f0 f1 z0 z1 a0 a1 a2 a3 a4 a5 a6 a7 hcv hb2
    simp only [List.setIfInBounds_toArray, List.set_cons_zero, List.getElem?_toArray, List.getElem?_cons_zero, List.getElem?_cons_succ] at g0 g1
    go_wp2_with fail
    refine bodyPost_ret (results_cell_tmp2 rfl _ _ _ _ _ _ _ rfl (blk_alloc (set4 (blk_far HZ2.out (by simp; omega) _) _ _ _ _) _) Try.underlying65 rfl info_head) rfl ?_
    refine ⟨?_, .slice A3 (came.length + 1) c3, ?_, fun h => absurd h q1, fun h => absurd h q2, fun _ _ => rfl⟩
    · have h1 := fun S (k : Fr S w w2) (hs : S g) => fr4 (k.setCell (p := ⟨g, 1, none⟩) (fun _ => hs) (.int .i64 er)) (Nat.le_refl w.heap.size) (.int .i64 0) (.int .i64 0) (.bool false) (.int .i64 0)
      exact (h1 _ HFR.out (.inl rfl)).alloc _
    · exact HAT.out.elim .inl fun h => .inr ⟨_, h, by simp; omega⟩
end Go.Proofs.Ytkabmmpccfeffaa
