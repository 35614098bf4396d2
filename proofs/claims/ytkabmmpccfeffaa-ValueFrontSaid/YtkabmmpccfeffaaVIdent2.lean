/- Layer 5 (ident.Get) at place 0: high tags. -/
import Derived.Test.YtkabmmpccfeffaaVIdent
import Derived.Outline
namespace Go.Proofs.Ytkabmmpccfeffaa
open Go.RowKit
set_option linter.unusedVariables false
set_option linter.unusedSimpArgs false

theorem set4 {w : World} {g : Nat} {t : TypeId} {a b c d : Value} (hb : w.heap[g]? = some (.cells #[a, b, c, d] t (0, 0))) (x y z u : Value) :
    ((((w.setCell ⟨g, 0, none⟩ x).setCell ⟨g, 1, none⟩ y).setCell ⟨g, 2, none⟩ z).setCell ⟨g, 3, none⟩ u).heap[g]? = some (.cells #[x, y, z, u] t (0, 0)) :=
  blk_set (blk_set (blk_set (blk_set hb 0 x) 1 y) 2 z) 3 u
theorem below4 {B : Nat} {w0 w : World} (h : Below B w0 w) {g : Nat} (hg : B ≤ g) (x y z u : Value) :
    Below B w0 ((((w.setCell ⟨g, 0, none⟩ x).setCell ⟨g, 1, none⟩ y).setCell ⟨g, 2, none⟩ z).setCell ⟨g, 3, none⟩ u) :=
  (((h.setCell hg _).setCell hg _).setCell hg _).setCell hg _

/-- What ident.Get tells of high tags. -/
def IdPost (b : ByteArray) (e' at' tg : Int) (w : World) (e : Ending) (w' : World) : Prop :=
  e = .returned (.tuple #[if e' = 0 then hd (bt b 0 / 64) tg (decide (bt b 0 / 32 % 2 = 1)) 0 else hd 0 0 false 0, .int .i64 at', .int .i64 e']) ∧ Below w.heap.size w w'
theorem IdPost.mk {b : ByteArray} {e' at' tg : Int} {w : World} {e : Ending} {w' : World} (h : e = .returned (.tuple #[if e' = 0 then hd (bt b 0 / 64) tg (decide (bt b 0 / 32 % 2 = 1)) 0 else hd 0 0 false 0, .int .i64 at', .int .i64 e'])) (hb : Below w.heap.size w w') : IdPost b e' at' tg w e w' := ⟨h, hb⟩
theorem idGo_step {b : ByteArray} {n k : Nat} {tag : Int} {r : Int × Int × Int} (h : idGo b n k tag = r) (hn : b.size - k < n) (hk : k < b.size) :
    (k = 1 ∧ bt b k = 128 → r = (3, (k : Int), 0)) ∧ (¬ (k = 1 ∧ bt b k = 128) → (268435455 < tag * 128 + bt b k % 128 → r = (3, (k : Int), 0)) ∧
      (tag * 128 + bt b k % 128 ≤ 268435455 → (128 ≤ bt b k → ∃ m, b.size - (k + 1) < m ∧ idGo b m (k + 1) (tag * 128 + bt b k % 128) = r) ∧
        (bt b k < 128 → (tag * 128 + bt b k % 128 < 31 → r = (3, (k : Int), 0)) ∧ (31 ≤ tag * 128 + bt b k % 128 → r = (0, (k : Int) + 1, tag * 128 + bt b k % 128))))) := by
  obtain ⟨n, rfl⟩ : ∃ m, n = m + 1 := ⟨n - 1, by omega⟩
  subst h
  simp only [idGo]
  rw [if_pos hk]
  refine ⟨fun h => by rw [if_pos h], fun h => ?_⟩
  rw [if_neg h]
  refine ⟨fun h => by rw [if_pos h], fun h => ?_⟩
  rw [if_neg (by omega)]
  refine ⟨fun h => ⟨n, by omega, by rw [if_pos h]⟩, fun h => ?_⟩
  rw [if_neg (by omega)]
  exact ⟨fun h => by rw [if_pos h], fun h => by rw [if_neg (by omega)]⟩
theorem idGo_end {b : ByteArray} {n k : Nat} {tag : Int} {r : Int × Int × Int} (h : idGo b n k tag = r) (hk : b.size ≤ k) : r = (2, (b.size : Int), 0) := by
  subst h
  cases n with
  | zero => rfl
  | succ n => simp only [idGo]; rw [if_neg (by omega)]

set_option maxRecDepth 100000 in
set_option maxHeartbeats 2000000 in
theorem ident_high (w : World) (b : ByteArray) (h : 0 < b.size) (hs : b.size ≤ 1000000) (hl : bt b 0 % 32 = 31) (e' at' tg : Int) (hz : idGo b b.size 1 0 = (e', at', tg)) :
    Calls Try.prog 190 #[.string b, .int .i64 0] w (IdPost b e' at' tg w) := by
  have h1 : ((0 : Int) == (b.size : Int)) = false := by simp; omega
  have h2 : decide ((b.size : Int) < 0) = false := by simp
  have h3 : (0 : Int) < (b.size : Int) := by omega
  have hx : (b[0]'h).toNat < 256 := UInt8.toNat_lt _
  have hbt : ((b[0]'h).toNat : Int) = bt b 0 := bt_nat b 0 h
  have c1 : wrap64 (((b[0]'h).toNat : Int) / 64) = ((b[0]'h).toNat : Int) / 64 := by unfold wrap64; omega
  have c2 : wrap64 (bits .and .u8 ((b[0]'h).toNat : Int) 31) = ((b[0]'h).toNat : Int) % 32 := (congrArg wrap64 (and31 _ hx)).trans (by unfold wrap64; omega)
  have c3 : (bits .and .u8 ((b[0]'h).toNat : Int) 32 != 0) = decide (((b[0]'h).toNat : Int) / 32 % 2 = 1) := and32 _ hx
  have c4 : ((b[0]'h).toNat : Int) % 32 = 31 := by rw [hbt]; exact hl
  have HBT := Lib.hid hbt
  have HZ := Lib.hid hz
  clear hbt hl hz
  go_enter Try.func190, Try.ntmps190
  go_wp2_with fail
  go_region
  go_wp2_with fail
  clear c1 c2 c3 c4 h1 h2 hx
  generalize hcl : ((b[0]'h).toNat : Int) / 64 = cl
  generalize hco : decide (((b[0]'h).toNat : Int) / 32 % 2 = 1) = co
  have HCL := Lib.hid hcl
  have HCO := Lib.hid hco
  clear hcl hco
  go_loopw [8, 9] (fun t i wr => ∃ (k : Nat) (tag : Nat), 1 ≤ k ∧ k ≤ b.size ∧ t = .int .i64 tag ∧ i = .int .i64 k ∧ tag ≤ 268435455 ∧
      Hid (wr.heap[w.heap.size]? = some (.cells #[.int .i64 0, .int .i64 0, .bool false, .int .i64 0] 65 (0, 0)) ∧ wr.heap[w.heap.size + 1]? = some (.cells #[.int .i64 cl, .int .i64 31, .bool co, .int .i64 0] 65 (0, 0)) ∧ Below w.heap.size w wr)
      ∧ Hid (∃ n, b.size - k < n ∧ idGo b n k tag = (e', at', tg))) (fun _ i _ => b.size - (intOf i).toNat)
  case atStart => exact ⟨1, 0, Nat.le_refl _, h, rfl, rfl, by omega, Lib.hid ⟨heap_alloc2_old w _ _, heap_alloc2_new w _ _, (((Below.refl _ _).alloc (Nat.le_refl _) _).alloc (by simp) _).drew⟩, b.size, by omega, HZ.out⟩
  case round =>
    obtain ⟨k, tag, hk1, hk, rfl, rfl, ht1, HW, HK⟩ := hrel
    have a0 := blk_cell HW.out.1 0
    have a1 := blk_cell HW.out.1 1
    have a2 := blk_cell HW.out.1 2
    have a3 := blk_cell HW.out.1 3
    have a4 := blk_frozen HW.out.1 0
    have a5 := blk_frozen HW.out.1 1
    have a6 := blk_frozen HW.out.1 2
    have a7 := blk_frozen HW.out.1 3
    have c0 := blk_cell HW.out.2.1 0
    have c1 := blk_cell HW.out.2.1 1
    have c2 := blk_cell HW.out.2.1 2
    have c3 := blk_cell HW.out.2.1 3
    have c4 := blk_frozen HW.out.2.1 1
    simp only [List.getElem?_toArray, List.getElem?_cons_zero, List.getElem?_cons_succ] at a0 a1 a2 a3 c0 c1 c2 c3
    by_cases hlt : k < b.size
    · have d1 : (k : Int) < (b.size : Int) := by omega
      have d0 : (0 : Int) ≤ (k : Int) := by omega
      have hy : (b[k]'hlt).toNat < 256 := UInt8.toNat_lt _
      have hbk : ((b[k]'hlt).toNat : Int) = bt b k := bt_nat b k hlt
      have d2 : wrap64 (bits .and .u8 ((b[k]'hlt).toNat : Int) 127) = ((b[k]'hlt).toNat : Int) % 128 := (congrArg wrap64 (and127 _ hy)).trans (by unfold wrap64; omega)
      have d5 : bits .or .i64 ((tag : Int) * 128) (((b[k]'hlt).toNat : Int) % 128) = (tag : Int) * 128 + ((b[k]'hlt).toNat : Int) % 128 := or_add tag ((b[k]'hlt).toNat % 128) (by omega) (by omega)
      have HBK := Lib.hid hbk
      clear hbk
      obtain ⟨n, hn, hg⟩ := HK.out
      have hst := idGo_step hg hn hlt
      rw [← HBK.out] at hst
      clear hg
      by_cases f1 : k = 1 ∧ (b[k]'hlt).toNat = 128
      · have G := Lib.hid (hst.1 ⟨f1.1, by omega⟩)
        clear hst
        obtain ⟨rfl, f1⟩ := f1
        have d3 : (((b[1]'hlt).toNat : Int) == 128) = true := by rw [f1]; rfl
        have F1 := Lib.hid f1
        clear f1
        go_wp2_with fail
        obtain ⟨rfl, rfl, rfl⟩ : e' = 3 ∧ at' = 1 ∧ tg = 0 := by simpa using G.out
        exact bodyPost_ret (results_cell_tmp2 rfl _ _ _ _ _ _ _ rfl (set4 HW.out.1 _ _ _ _) Try.underlying65 rfl info_head) rfl (IdPost.mk rfl (below4 HW.out.2.2 (Nat.le_refl _) _ _ _ _))
      · have G := Lib.hid (hst.2 (by omega))
        clear hst
        have key : ((k : Int) == 1) = false ∨ (((k : Int) == 1) = true ∧ (((b[k]'hlt).toNat : Int) == 128) = false) := by
          by_cases f2 : (k : Int) = 1
          · refine .inr ⟨by simpa using f2, ?_⟩
            have : ((b[k]'hlt).toNat : Int) ≠ 128 := by omega
            simpa using this
          · exact .inl (by simpa using f2)
        clear f1
        rcases key with d6 | ⟨d6, d7⟩
        all_goals
          go_wp2_with fail
          · have hv : (268435455 : Int) < tag * 128 + ((b[k]'hlt).toNat : Int) % 128 := by with_reducible assumption
            obtain ⟨rfl, rfl, rfl⟩ : e' = 3 ∧ at' = k ∧ tg = 0 := by simpa using G.out.1 hv
            exact bodyPost_ret (results_cell_tmp2 rfl _ _ _ _ _ _ _ rfl (set4 HW.out.1 _ _ _ _) Try.underlying65 rfl info_head) rfl (IdPost.mk rfl (below4 HW.out.2.2 (Nat.le_refl _) _ _ _ _))
          · have hv : tag * 128 + ((b[k]'hlt).toNat : Int) % 128 ≤ 268435455 := by with_reducible assumption
            have hx : 128 ≤ ((b[k]'hlt).toNat : Int) := by with_reducible assumption
            have g := (G.out.2 hv).1 hx
            go_roundw
            case rel => exact ⟨k + 1, tag * 128 + (b[k]'hlt).toNat % 128, by omega, by omega, by go_num, by go_num, by omega, HW, g⟩
            case measure => simp [intOf]; omega
          · have hv : tag * 128 + ((b[k]'hlt).toNat : Int) % 128 ≤ 268435455 := by with_reducible assumption
            have hx : ((b[k]'hlt).toNat : Int) < 128 := by with_reducible assumption
            have hy2 : tag * 128 + ((b[k]'hlt).toNat : Int) % 128 < 31 := by with_reducible assumption
            obtain ⟨rfl, rfl, rfl⟩ : e' = 3 ∧ at' = k ∧ tg = 0 := by simpa using ((G.out.2 hv).2 hx).1 hy2
            exact bodyPost_ret (results_cell_tmp2 rfl _ _ _ _ _ _ _ rfl (set4 HW.out.1 _ _ _ _) Try.underlying65 rfl info_head) rfl (IdPost.mk rfl (below4 HW.out.2.2 (Nat.le_refl _) _ _ _ _))
          · have hv : tag * 128 + ((b[k]'hlt).toNat : Int) % 128 ≤ 268435455 := by with_reducible assumption
            have hx : ((b[k]'hlt).toNat : Int) < 128 := by with_reducible assumption
            have hy2 : 31 ≤ tag * 128 + ((b[k]'hlt).toNat : Int) % 128 := by with_reducible assumption
            obtain ⟨rfl, rfl, rfl⟩ : e' = 0 ∧ at' = k + 1 ∧ tg = tag * 128 + ((b[k]'hlt).toNat : Int) % 128 := by simpa using ((G.out.2 hv).2 hx).2 hy2
            refine bodyPost_ret (results_cell_tmp2 rfl _ _ _ _ _ _ _ rfl (set4 (blk_far HW.out.1 (by simp) _) _ _ _ _) Try.underlying65 rfl info_head) rfl (IdPost.mk ?_ (below4 (HW.out.2.2.setCell (by simp) _) (Nat.le_refl _) _ _ _ _))
            rw [← HBT.out, HCL.out, HCO.out]
            rfl
    · obtain ⟨n, hn, hg⟩ := HK.out
      have G := Lib.hid (idGo_end hg (by omega))
      clear hg
      go_wp2_with fail
      obtain ⟨rfl, rfl, rfl⟩ : e' = 2 ∧ at' = b.size ∧ tg = 0 := by simpa using G.out
      exact bodyPost_ret (results_cell_tmp2 rfl _ _ _ _ _ _ _ rfl (set4 HW.out.1 _ _ _ _) Try.underlying65 rfl info_head) rfl (IdPost.mk rfl (below4 HW.out.2.2 (Nat.le_refl _) _ _ _ _))
end Go.Proofs.Ytkabmmpccfeffaa
