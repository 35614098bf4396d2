/- Rows of the call's own: small laws that the walks share. -/
import Derived.Test.YtkabmmpccfeffaaBase
import Derived.Maps.AppendAt
import Derived.OwnWalk
import Derived.Laws.OwnMore
import Derived.Laws.BytesArg
namespace Go.Proofs.Ytkabmmpccfeffaa
open Go.RowKit

/-- Bytes as values. -/
def nums (xs : List Int) : List Value := xs.map fun x => .int .u8 x
theorem nums_length (xs : List Int) : (nums xs).length = xs.length := by simp [nums]
theorem nums_append (xs ys : List Int) : nums (xs ++ ys) = nums xs ++ nums ys := by simp [nums]

section
variable {w w' : World} {base n size g : Nat} {e t : TypeId} {v : Value} {xs : List Value} {cs : Array Value}
theorem own_slice (h : w.ownsRow base e size v n xs) : ∃ A c, v = .slice A n c := by
  rcases h.2 with ⟨rfl, rfl⟩ | ⟨g, cap, cur, rfl, _⟩
  · exact ⟨none, 0, rfl⟩
  · exact ⟨_, cap, rfl⟩
theorem own_ne (h : w.ownsRow base e size v n xs) (hg : w.heap[g]? = some (.cells cs t (0, 0))) (hne : e ≠ t) : some g ≠ v.ownBlock := by
  rcases h.2 with ⟨rfl, _⟩ | ⟨g', cap, cur, rfl, _, hh, _⟩
  · simp [Value.ownBlock]
  · intro he
    have : g = g' := by simpa [Value.ownBlock] using he
    subst this
    rw [hh] at hg
    injection hg with hg
    injection hg with _ ht
    exact hne ht
theorem own_base (h : w.ownsRow base e size v n xs) (k : Nat) (hk : v.ownBlock = some k) : base ≤ k := (h.lt k hk).1
theorem own_setCell (h : w.ownsRow base e size v n xs) {p : Addr} (hne : some p.block ≠ v.ownBlock) (u : Value) : (w.setCell p u).ownsRow base e size v n xs := by
  refine ⟨h.1, ?_⟩
  rcases h.2 with h2 | ⟨g, cap, cur, rfl, hg, hh, r⟩
  · exact .inl h2
  · exact .inr ⟨g, cap, cur, rfl, hg, by rw [Below.heap_setCell _ _ _ _ (by intro e; apply hne; simp [Value.ownBlock, e])]; exact hh, r⟩
theorem own_weaken {base' : Nat} (h : w.ownsRow base e size v n xs) (hb : base' ≤ base) : w.ownsRow base' e size v n xs := by
  refine ⟨h.1, ?_⟩
  rcases h.2 with h2 | ⟨g, cap, cur, hv, hg, r⟩
  · exact .inl h2
  · exact .inr ⟨g, cap, cur, hv, Nat.le_trans hb hg, r⟩
theorem own_drewN (h : w.ownsRow base e size v n xs) (m : Nat) : (w.drewN m).ownsRow base e size v n xs := h
theorem own_drew (h : w.ownsRow base e size v n xs) : w.drew.ownsRow base e size v n xs := h
/-- 'v[:0]'. -/
theorem own_zero {A : Option Addr} {c : Nat} (h : w.ownsRow base e size (.slice A n c) n xs) : w.ownsRow base e size (.slice A 0 c) 0 [] := by
  refine ⟨by simp, ?_⟩
  rcases h.2 with ⟨hv, _⟩ | ⟨g, cap, cur, hv, hg, hh, hn, hm, hs, _⟩
  · injection hv with h1 h2 h3
    subst h1; subst h3
    exact .inl ⟨rfl, rfl⟩
  · injection hv with h1 h2 h3
    subst h1; subst h3
    exact .inr ⟨g, _, cur, rfl, hg, hh, Nat.zero_le _, hm, hs, by simp⟩

theorem blk_lt {o : Obj} (h : w.heap[g]? = some o) : g < w.heap.size := (Array.getElem?_eq_some_iff.1 h).1
theorem blk_cell (h : w.heap[g]? = some (.cells cs t (0, 0))) (i : Nat) : w.cell? ⟨g, i, none⟩ = cs[i]? := cell_of_row w g i cs t (0, 0) h
theorem blk_frozen (h : w.heap[g]? = some (.cells cs t (0, 0))) (i : Nat) : w.frozen? ⟨g, i, none⟩ = false := by simp [World.frozen?, h]
theorem blk_set (h : w.heap[g]? = some (.cells cs t (0, 0))) (i : Nat) (u : Value) : (w.setCell ⟨g, i, none⟩ u).heap[g]? = some (.cells (cs.setIfInBounds i u) t (0, 0)) := by
  simp [World.setCell, Array.getElem?_modify, h]
theorem blk_far (h : w.heap[g]? = some (.cells cs t (0, 0))) {p : Addr} (hp : g ≠ p.block) (u : Value) : (w.setCell p u).heap[g]? = some (.cells cs t (0, 0)) := (Below.heap_setCell w p u g hp).trans h
theorem blk_alloc (h : w.heap[g]? = some (.cells cs t (0, 0))) (o : Obj) : (w.alloc o).heap[g]? = some (.cells cs t (0, 0)) := (Below.heap_alloc w o g (blk_lt h)).trans h
theorem blk_grown {row : Option Nat} (h : w.heap[g]? = some (.cells cs t (0, 0))) (hg : w.grownBy w' row) (hne : some g ≠ row) : w'.heap[g]? = some (.cells cs t (0, 0)) := (hg.block g (blk_lt h) hne).trans h
theorem blk_ne {g' : Nat} {t' : TypeId} {cs' : Array Value} (h : w.heap[g]? = some (.cells cs t (0, 0))) (h' : w.heap[g']? = some (.cells cs' t' (0, 0))) (hne : t ≠ t') : g ≠ g' := by
  rintro rfl
  rw [h] at h'
  injection h' with h'
  injection h' with _ ht
  exact hne ht
theorem grown_un {m : Nat} {row : Option Nat} (h : (w.drewN m).grownBy w' row) : w.grownBy w' row := ⟨h.os, h.tape, h.output, h.size, h.block⟩
theorem grown_un1 {row : Option Nat} (h : w.drew.grownBy w' row) : w.grownBy w' row := ⟨h.os, h.tape, h.output, h.size, h.block⟩
/-- The variadic's box behind 'append(v, x)'. -/
theorem news_one (W : World) (y : Value) (E : TypeId) : ∀ (j : Nat) (u : Value), [y][j]? = some u → (W.alloc (.cells #[y] E)).cell? ((⟨W.heap.size, 0, none⟩ : Addr).add j) = some u := by
  intro j u hj
  match j, hj with
  | 0, hj =>
    simp at hj
    subst hj
    simp [Addr.add]
end

section
variable {P : Program} {ops : Array Oper} {rest : List Oper} {o : Oper} {a : Act} {Q : Exit → Act → World → Prop}
/-- 'append(v, x)', the elements of one cell each, v a row of the call's own: the variadic's box has just been laid. -/
theorem wpList_app1 (W : World) (E : TypeId) (hgd : o.guard = none) (s x : Operand) (t e : TypeId) (ho : o.op = .call { callee := .builtin .append, args := #[s, x], argTypes := #[t, t] })
    (B : Nat) (z : Value) (bytes : Nat) (ht : P.underlying t = some (.slice e)) (hinfo : (P.info? e).map (fun i => (i.zero, i.size, i.bytes)) = some (some z, 1, bytes)) (hz : z.cells.size = 1)
    (A : Option Addr) (n c : Nat) (xs : List Value) (y : Value) (hs : a.eval s = .slice A n c) (hx : a.eval x = .slice (some ⟨W.heap.size, 0, none⟩) 1 1) (h1 : y.oneCell' = true)
    (HO : W.ownsRow B e 1 (.slice A n c) n xs) (h63 : n + 1 ≤ maxLen) (hbytes : (n + 1) * bytes ≤ 140737488355328) (hbase : B ≤ W.heap.size)
    (h : ∀ A' c' w', w'.ownsRow B e 1 (.slice A' (n + 1) c') (n + 1) (xs ++ [y]) → W.grownBy w' (Value.slice A n c).ownBlock →
      ((Value.slice A' (n + 1) c').ownBlock = (Value.slice A n c).ownBlock ∨ (Value.slice A' (n + 1) c').ownBlock = some (W.heap.size + 1)) → wpList P ops Q rest (a.put o.dst (.slice A' (n + 1) c')) w') :
    wpList P ops Q (o :: rest) a (W.alloc (.cells #[y] E)) := by
  obtain ⟨i0, hi, hz0, hz1, hz2⟩ := info_parts hinfo
  refine wpList_append_own_at _ hgd s x t ho B e i0 z 1 bytes ht hi hz0 hz1 hz2 hz (by omega) _ n xs hs (HO.alloc _) _ 1 1 [y] hx rfl (news_one _ _ _) (by simpa using h1) h63 hbytes (by simp; omega) ?_
  intro v' w1 hown hg hnil hat
  obtain ⟨A', c', rfl⟩ := own_slice hown
  refine h A' c' w1 hown ⟨hg.os, hg.tape, hg.output, by have := hg.size; simp at this; omega, fun k hk hne => ?_⟩ (by simpa using hat)
  exact (hg.block k (by simp; omega) hne).trans (Below.heap_alloc W _ k hk)
end

theorem own_string {P : Program} {w : World} {base n : Nat} {e' src dst e : TypeId} {v : Value} {xs : List Int} (hs : P.underlying src = some (.slice e)) (he : P.underlying e = some (.int .u8)) (hd : P.underlying dst = some .string)
    (h : w.ownsRow base e' 1 v n (nums xs)) : (convert src dst v).run P w = .ok (.string (strOfNums xs)) w := by
  have hl : xs.length = n := by have := h.1; simp [nums] at this; exact this
  rcases h.2 with ⟨rfl, rfl⟩ | ⟨g, cap, cur, rfl, _⟩
  · obtain rfl : xs = [] := List.eq_nil_of_length_eq_zero hl
    exact run_convert_bytes_nil w src e hs he 0 0 dst hd
  · refine run_convert_bytes_arg w src e hs he g 0 n cap xs hl (fun i hi => ?_) dst hd
    have hc := h.cells (g := g) rfl i (.int .u8 (xs.getD i 0)) (by simp [nums, List.getElem?_eq_getElem (show i < xs.length by omega), List.getD_eq_getElem?_getD])
    have ha : (⟨g, 0, none⟩ : Addr).add i = ⟨g, 0 + i, none⟩ := by unfold Addr.add; split <;> simp_all
    rwa [ha] at hc
end Go.Proofs.Ytkabmmpccfeffaa
