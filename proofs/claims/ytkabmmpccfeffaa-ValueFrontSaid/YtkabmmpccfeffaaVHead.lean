/- Layer 7 (head.Get) at place 0: by contract. -/
import Derived.Test.YtkabmmpccfeffaaVLen
namespace Go.Proofs.Ytkabmmpccfeffaa
open Go.RowKit
set_option linter.unusedVariables false
set_option linter.unusedSimpArgs false

/-- An element's beginning. -/
structure Hd where
  cl : Int
  tag : Int
  cons : Bool
  len : Int
def Hd.zero : Hd := ⟨0, 0, false, 0⟩
def Hd.val (h : Hd) : Value := hd h.cl h.tag h.cons h.len
/-- What ident.Get tells at place 0: error, place, tag. -/
def idRes (b : ByteArray) : Int × Int × Int :=
  if b.size = 0 then (2, 0, 0)
  else if bt b 0 % 32 < 31 then (0, 1, bt b 0 % 32)
  else idGo b b.size 1 0
theorem idGo_range {b : ByteArray} : ∀ {n k : Nat} {tag : Int} {r : Int × Int × Int}, idGo b n k tag = r → k ≤ b.size → (r.1 = 0 ∨ r.1 = 2 ∨ r.1 = 3) ∧ 0 ≤ r.2.1 ∧ r.2.1 ≤ b.size := by
  intro n
  induction n with
  | zero => intro k tag r h hk; subst h; exact ⟨.inr (.inl rfl), by simp [idGo], by simp [idGo]⟩
  | succ n ih =>
    intro k tag r h hk
    simp only [idGo] at h
    split at h
    · split at h
      · subst h; exact ⟨.inr (.inr rfl), by simp, by simp; omega⟩
      · split at h
        · subst h; exact ⟨.inr (.inr rfl), by simp, by simp; omega⟩
        · split at h
          · exact ih h (by omega)
          · split at h
            · subst h; exact ⟨.inr (.inr rfl), by simp, by simp; omega⟩
            · subst h; exact ⟨.inl rfl, by simp; omega, by simp; omega⟩
    · subst h; exact ⟨.inr (.inl rfl), by simp, by simp⟩
theorem idRes_range (b : ByteArray) : ((idRes b).1 = 0 ∨ (idRes b).1 = 2 ∨ (idRes b).1 = 3) ∧ 0 ≤ (idRes b).2.1 ∧ (idRes b).2.1 ≤ b.size := by
  unfold idRes
  split
  · exact ⟨.inr (.inl rfl), by simp, by simp⟩
  · split
    · exact ⟨.inl rfl, by simp, by simp; omega⟩
    · exact idGo_range rfl (by omega)
/-- What head.Get tells at place 0: error, place, head. -/
def headRes (b : ByteArray) : Int × Int × Hd :=
  if (idRes b).1 = 0 then
    if (lenRes b (idRes b).2.1.toNat).1 = 0 then (0, (lenRes b (idRes b).2.1.toNat).2.1, ⟨bt b 0 / 64, (idRes b).2.2, decide (bt b 0 / 32 % 2 = 1), (lenRes b (idRes b).2.1.toNat).2.2⟩)
    else ((lenRes b (idRes b).2.1.toNat).1, (lenRes b (idRes b).2.1.toNat).2.1, Hd.zero)
  else ((idRes b).1, (idRes b).2.1, Hd.zero)
def IdAny (b : ByteArray) (w : World) (e : Ending) (w' : World) : Prop :=
  e = .returned (.tuple #[if (idRes b).1 = 0 then hd (bt b 0 / 64) (idRes b).2.2 (decide (bt b 0 / 32 % 2 = 1)) 0 else hd 0 0 false 0, .int .i64 (idRes b).2.1, .int .i64 (idRes b).1]) ∧ Below w.heap.size w w'
theorem ident_any (w : World) (b : ByteArray) (hs : b.size ≤ 1000000) : Calls Try.prog 190 #[.string b, .int .i64 0] w (IdAny b w) := by
  unfold IdAny idRes
  by_cases h : b.size = 0
  · simp only [if_pos h]
    refine (ident_empty w b h).mono ?_
    rintro e w' ⟨rfl, hb⟩
    exact ⟨rfl, hb⟩
  · simp only [if_neg h]
    by_cases hl : bt b 0 % 32 < 31
    · simp only [if_pos hl]
      refine (ident_low w b (by omega) hl).mono ?_
      rintro e w' ⟨rfl, hb⟩
      exact ⟨rfl, hb⟩
    · simp only [if_neg hl]
      exact ident_high w b (by omega) hs (by omega) _ _ _ rfl
theorem blk4 {w : World} {g : Nat} {t : TypeId} {a b c d : Value} (hb : w.heap[g]? = some (.cells #[a, b, c, d] t (0, 0))) :
    w.cell? ⟨g, 0, none⟩ = some a ∧ w.cell? ⟨g, 1, none⟩ = some b ∧ w.cell? ⟨g, 2, none⟩ = some c ∧ w.cell? ⟨g, 3, none⟩ = some d ∧
    w.frozen? ⟨g, 0, none⟩ = false ∧ w.frozen? ⟨g, 1, none⟩ = false ∧ w.frozen? ⟨g, 2, none⟩ = false ∧ w.frozen? ⟨g, 3, none⟩ = false :=
  ⟨blk_cell hb 0, blk_cell hb 1, blk_cell hb 2, blk_cell hb 3, blk_frozen hb 0, blk_frozen hb 1, blk_frozen hb 2, blk_frozen hb 3⟩
def HeadAny (b : ByteArray) (w : World) (e : Ending) (w' : World) : Prop :=
  e = .returned (.tuple #[(headRes b).2.2.val, .int .i64 (headRes b).2.1, .int .i64 (headRes b).1]) ∧ Below w.heap.size w w'

set_option maxRecDepth 100000 in
set_option maxHeartbeats 1000000 in
theorem head_any (w : World) (b : ByteArray) (hs : b.size ≤ 1000000) : Calls Try.prog 177 #[.string b, .int .i64 0] w (HeadAny b w) := by
  have hr := idRes_range b
  obtain ⟨e1, a1, tg, hid⟩ : ∃ e1 a1 tg, idRes b = (e1, a1, tg) := ⟨_, _, _, rfl⟩
  rw [hid] at hr
  simp only at hr
  obtain ⟨hr1, hr2, hr3⟩ := hr
  obtain ⟨k, rfl⟩ := Int.eq_ofNat_of_zero_le hr2
  have hk : k ≤ b.size := by omega
  have ida := fun W => ident_any W b hs
  unfold IdAny hd at ida
  rw [hid] at ida
  simp only at ida
  have IDA := Lib.hid ida
  have hfin : headRes b = if e1 = 0 then
    if (lenRes b k).1 = 0 then (0, (lenRes b k).2.1, ⟨bt b 0 / 64, tg, decide (bt b 0 / 32 % 2 = 1), (lenRes b k).2.2⟩)
    else ((lenRes b k).1, (lenRes b k).2.1, Hd.zero)
    else (e1, (k : Int), Hd.zero) := by unfold headRes; rw [hid]; simp
  have HF := Lib.hid hfin
  have lna := fun W => len_any W b k hk hs
  obtain ⟨e2, a2, n, hln⟩ : ∃ e2 a2 n, lenRes b k = (e2, a2, n) := ⟨_, _, _, rfl⟩
  rw [hln] at lna HF
  have LNA := Lib.hid lna
  clear ida hid hfin hr2 hr3 lna hln
  by_cases h0 : e1 = 0
  · subst h0
    simp only [if_true] at IDA HF
    by_cases h1 : e2 = 0
    · subst h1
      simp only [if_true] at HF
      go_enter Try.func177, Try.ntmps177
      go_wp2_with fail
      refine (IDA.out _).mono ?_
      rintro e w1 ⟨rfl, hb1⟩
      have hbk : w1.heap[w.heap.size]? = some (.cells #[.int .i64 0, .int .i64 0, .bool false, .int .i64 0] 65 (0, 0)) := (hb1.block _ (by simp)).trans (heap_alloc_new w _)
      obtain ⟨a0, a1, a2', a3, a4, a5, a6, a7⟩ := blk4 hbk
      have hz : w.heap.size < w1.heap.size := by have := hb1.size; simp at this; omega
      have hbb := ((Below.refl w.heap.size w).alloc (Nat.le_refl _) (.cells #[.int .i64 0, .int .i64 0, .bool false, .int .i64 0] 65)).trans (hb1.mono (by simp))
      have HB1 := Lib.hid hbb
      have HBK := Lib.hid hbk
      clear hb1 hbk hbb
      go_wp2_with fail
      refine (LNA.out _).mono ?_
      rintro e w2 ⟨rfl, rfl⟩
      go_wp2_with fail
      refine bodyPost_ret (results_cell_tmp2 rfl _ _ _ _ _ _ _ rfl (blk_alloc (set4 HBK.out _ _ _ _) _) Try.underlying65 rfl info_head) rfl ⟨?_, (below4 HB1.out (Nat.le_refl _) _ _ _ _).alloc (by simp; omega) _⟩
      rw [HF.out]
      rfl
    · have h1' : (e2 == 0) = false := beq_eq_false_iff_ne.2 h1
      have h1'' : (e2 != 0) = true := bne_iff_ne.2 h1
      simp only [if_neg h1] at HF
      clear h1
      go_enter Try.func177, Try.ntmps177
      go_wp2_with fail
      refine (IDA.out _).mono ?_
      rintro e w1 ⟨rfl, hb1⟩
      have hbk : w1.heap[w.heap.size]? = some (.cells #[.int .i64 0, .int .i64 0, .bool false, .int .i64 0] 65 (0, 0)) := (hb1.block _ (by simp)).trans (heap_alloc_new w _)
      obtain ⟨a0, a1, a2', a3, a4, a5, a6, a7⟩ := blk4 hbk
      have hz : w.heap.size < w1.heap.size := by have := hb1.size; simp at this; omega
      have hbb := ((Below.refl w.heap.size w).alloc (Nat.le_refl _) (.cells #[.int .i64 0, .int .i64 0, .bool false, .int .i64 0] 65)).trans (hb1.mono (by simp))
      have HB1 := Lib.hid hbb
      have HBK := Lib.hid hbk
      clear hb1 hbk hbb
      go_wp2_with fail
      refine (LNA.out _).mono ?_
      rintro e w2 ⟨rfl, rfl⟩
      go_wp2_with fail
      refine bodyPost_ret (results_cell_tmp2 rfl _ _ _ _ _ _ _ rfl (blk_alloc (set4 HBK.out _ _ _ _) _) Try.underlying65 rfl info_head) rfl ⟨?_, (below4 HB1.out (Nat.le_refl _) _ _ _ _).alloc (by simp; omega) _⟩
      rw [HF.out]
      rfl
  · have h1' : (e1 == 0) = false := beq_eq_false_iff_ne.2 h0
    have h1'' : (e1 != 0) = true := bne_iff_ne.2 h0
    simp only [if_neg h0] at HF IDA
    clear h0
    go_enter Try.func177, Try.ntmps177
    go_wp2_with fail
    refine (IDA.out _).mono ?_
    rintro e w1 ⟨rfl, hb1⟩
    have hbk : w1.heap[w.heap.size]? = some (.cells #[.int .i64 0, .int .i64 0, .bool false, .int .i64 0] 65 (0, 0)) := (hb1.block _ (by simp)).trans (heap_alloc_new w _)
    obtain ⟨a0, a1, a2', a3, a4, a5, a6, a7⟩ := blk4 hbk
    have hz : w.heap.size < w1.heap.size := by have := hb1.size; simp at this; omega
    have hbb := ((Below.refl w.heap.size w).alloc (Nat.le_refl _) (.cells #[.int .i64 0, .int .i64 0, .bool false, .int .i64 0] 65)).trans (hb1.mono (by simp))
    have HB1 := Lib.hid hbb
    have HBK := Lib.hid hbk
    clear hb1 hbk hbb
    go_wp2_with fail
    refine bodyPost_ret (results_cell_tmp2 rfl _ _ _ _ _ _ _ rfl (blk_alloc (set4 HBK.out _ _ _ _) _) Try.underlying65 rfl info_head) rfl ⟨?_, (below4 HB1.out (Nat.le_refl _) _ _ _ _).alloc (by simp; omega) _⟩
    rw [HF.out]
    rfl
end Go.Proofs.Ytkabmmpccfeffaa
