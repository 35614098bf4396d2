/- What a call may have changed, told by block numbers and element types: words that the walks share. -/
import Derived.WalkKit
import Derived.Lib.Hide
import Derived.Deep.Draws
namespace Go.Proofs.Ytkabmmpccfeffaa
open Go.RowKit

/-- A block's element type, if it is a block of cells. -/
def ty? : Obj → Option TypeId
  | .cells _ e _ => some e
  | _ => none

/-- Below block B nothing has changed, and no block whose element type isn't among ts. -/
structure Kp (B : Nat) (ts : List TypeId) (w w' : World) : Prop where
  os : w'.os = w.os
  tape : w'.tape = w.tape
  output : w'.output = w.output
  size : w.heap.size ≤ w'.heap.size
  low : ∀ k : Nat, k < B → k < w.heap.size → w'.heap[k]? = w.heap[k]?
  far : ∀ (k : Nat) (o : Obj), w.heap[k]? = some o → (∀ e : TypeId, ty? o = some e → e ∉ ts) → w'.heap[k]? = some o

namespace Kp
variable {B : Nat} {ts : List TypeId} {w w1 w2 : World}

theorem refl (B : Nat) (ts : List TypeId) (w : World) : Kp B ts w w := ⟨rfl, rfl, rfl, Nat.le_refl _, fun _ _ _ => rfl, fun _ _ h _ => h⟩

theorem trans (h : Kp B ts w w1) (k : Kp B ts w1 w2) : Kp B ts w w2 :=
  ⟨k.os.trans h.os, k.tape.trans h.tape, k.output.trans h.output, Nat.le_trans h.size k.size,
   fun i hi hl => (k.low i hi (Nat.lt_of_lt_of_le hl h.size)).trans (h.low i hi hl),
   fun i o ho ht => k.far i o (h.far i o ho ht) ht⟩

theorem mono {B' : Nat} {ts' : List TypeId} (h : Kp B ts w w1) (hB : B' ≤ B) (ht : ∀ e ∈ ts, e ∈ ts') : Kp B' ts' w w1 :=
  ⟨h.os, h.tape, h.output, h.size, fun k hk hl => h.low k (Nat.lt_of_lt_of_le hk hB) hl, fun k o ho hn => h.far k o ho fun e he hm => hn e he (ht e hm)⟩

theorem of_below (h : Below w.heap.size w w1) (hB : B ≤ w.heap.size) : Kp B ts w w1 :=
  ⟨h.os, h.tape, h.output, h.size, fun k hk _ => h.block k (Nat.lt_of_lt_of_le hk hB),
   fun k _ ho _ => (h.block k (Array.getElem?_eq_some_iff.1 ho).1).trans ho⟩

/-- What is new may be changed at will. -/
theorem news {ts' : List TypeId} (h : Kp B ts w w1) (k : Kp w.heap.size ts' w1 w2) : Kp B ts w w2 :=
  ⟨k.os.trans h.os, k.tape.trans h.tape, k.output.trans h.output, Nat.le_trans h.size k.size,
   fun i hi hl => (k.low i hl (Nat.lt_of_lt_of_le hl h.size)).trans (h.low i hi hl),
   fun i o ho ht => by
    have hl := (Array.getElem?_eq_some_iff.1 ho).1
    exact (k.low i hl (Nat.lt_of_lt_of_le hl h.size)).trans (h.far i o ho ht)⟩

theorem drewN (h : Kp B ts w w1) (n : Nat) : Kp B ts w (w1.drewN n) := h.trans ⟨rfl, rfl, rfl, Nat.le_refl _, fun _ _ _ => rfl, fun _ _ h _ => h⟩
theorem drew (h : Kp B ts w w1) : Kp B ts w w1.drew := h.trans ⟨rfl, rfl, rfl, Nat.le_refl _, fun _ _ _ => rfl, fun _ _ h _ => h⟩

theorem alloc (h : Kp B ts w w1) (o : Obj) : Kp B ts w (w1.alloc o) := h.trans
  ⟨rfl, rfl, rfl, by simp, fun k _ hl => Below.heap_alloc _ _ _ hl, fun _ _ hp _ => (Below.heap_alloc _ _ _ (Array.getElem?_eq_some_iff.1 hp).1).trans hp⟩

theorem setCell (h : Kp B ts w w1) {g i : Nat} {u : Value} {cs : Array Value} {t : TypeId} {fz : Nat × Nat} (hb : w1.heap[g]? = some (.cells cs t fz)) (hB : B ≤ g) (ht : t ∈ ts ∨ w.heap.size ≤ g) : Kp B ts w (w1.setCell ⟨g, i, none⟩ u) := by
  have ho : ∀ k, k ≠ g → (w1.setCell ⟨g, i, none⟩ u).heap[k]? = w1.heap[k]? := fun k hk => Below.heap_setCell _ _ _ _ hk
  refine ⟨h.os, h.tape, h.output, by simpa [World.setCell] using h.size, fun k hk hl => (ho k (by omega)).trans (h.low k hk hl), fun k o hk hn => ?_⟩
  by_cases e : k = g
  · subst e
    have h1 := h.far k o hk hn
    rw [h1] at hb
    injection hb with hb
    subst hb
    rcases ht with ht | ht
    · exact absurd ht (hn t rfl)
    · exact absurd (Array.getElem?_eq_some_iff.1 hk).1 (by omega)
  · exact (ho k e).trans (h.far k o hk hn)

/-- Behind a law that ends in 'grownBy' (append): the row that may have been written is of a type among ts, or new. -/
theorem grown {base n size : Nat} {e : TypeId} {v : Value} {xs : List Value} (h : Kp B ts w w1) (hg : w1.grownBy w2 v.ownBlock) (hown : w1.ownsRow base e size v n xs)
    (hB : B ≤ base) (ht : e ∈ ts ∨ w.heap.size ≤ base) : Kp B ts w w2 := by
  have hb : ∀ k, v.ownBlock = some k → base ≤ k ∧ ∃ cur, w1.heap[k]? = some (.cells cur e (0, 0)) := by
    intro k hk
    rcases hown.2 with ⟨rfl, _⟩ | ⟨g, cap, cur, rfl, hbase, hh, _⟩
    · simp [Value.ownBlock] at hk
    · simp [Value.ownBlock] at hk
      subst hk
      exact ⟨hbase, cur, hh⟩
  refine ⟨hg.os.trans h.os, hg.tape.trans h.tape, hg.output.trans h.output, Nat.le_trans h.size hg.size, fun k hk hl => ?_, fun k o hk hn => ?_⟩
  · exact (hg.block k (Nat.lt_of_lt_of_le hl h.size) (fun e1 => by have := (hb k e1.symm).1; omega)).trans (h.low k hk hl)
  · have h1 := h.far k o hk hn
    have hl := (Array.getElem?_eq_some_iff.1 hk).1
    refine (hg.block k (Nat.lt_of_lt_of_le hl h.size) (fun e1 => ?_)).trans h1
    obtain ⟨hbase, cur, hc⟩ := hb k e1.symm
    rw [hc] at h1
    injection h1 with h1
    subst h1
    rcases ht with ht | ht
    · exact hn e rfl ht
    · omega

theorem below (h : Kp B ts w w1) (hB : B ≤ w.heap.size) : Below B w w1 := ⟨h.os, h.tape, h.output, h.size, fun k hk => h.low k hk (Nat.lt_of_lt_of_le hk hB)⟩

theorem blk (h : Kp B ts w w1) {g : Nat} {cs : Array Value} {t : TypeId} {fz : Nat × Nat} (hb : w.heap[g]? = some (.cells cs t fz)) (ht : t ∉ ts) : w1.heap[g]? = some (.cells cs t fz) :=
  h.far g _ hb fun e he => by simp [ty?] at he; subst he; exact ht

theorem own (h : Kp B ts w w1) {base n size : Nat} {e : TypeId} {v : Value} {xs : List Value} (ho : w.ownsRow base e size v n xs) (ht : e ∉ ts) : w1.ownsRow base e size v n xs := by
  refine ⟨ho.1, ?_⟩
  rcases ho.2 with h2 | ⟨g, cap, cur, hv, hg, hh, r⟩
  · exact .inl h2
  · exact .inr ⟨g, cap, cur, hv, hg, h.blk hh ht, r⟩

theorem cell (h : Kp B ts w w1) {p : Addr} (hp : p.block < B) (hl : p.block < w.heap.size) : w1.cell? p = w.cell? p := World.cell?_of_block (w := w) (h.low p.block hp hl)
end Kp
end Go.Proofs.Ytkabmmpccfeffaa
