/- Layer 9 (event.Machine): what lies in memory, and how it goes on. -/
import Derived.Test.YtkabmmpccfeffaaVReader
namespace Go.Proofs.Ytkabmmpccfeffaa
open Go.RowKit
set_option linter.unusedVariables false
set_option linter.unusedSimpArgs false

/-- An event. -/
structure Ev where
  kind : Int
  at_ : Int
  h : Hd
  b : Int
def Ev.cells (e : Ev) : List Value := [.int .i64 e.kind, .int .i64 e.at_, .int .i64 e.h.cl, .int .i64 e.h.tag, .bool e.h.cons, .int .i64 e.h.len, .int .u8 e.b]
def evCells (l : List Ev) : List Value := l.flatMap Ev.cells
theorem evCells_append (a b : List Ev) : evCells (a ++ b) = evCells a ++ evCells b := by simp [evCells]
theorem evCells_length (l : List Ev) : (evCells l).length = l.length * 7 := by
  induction l with
  | nil => rfl
  | cons x r ih => simp [evCells, Ev.cells] at ih ⊢; omega
/-- A row of events of the call's own. -/
def EvRow (w : World) (B : Nat) (v : Value) (l : List Ev) : Prop := w.ownsRow B 67 7 v l.length (evCells l)
theorem info_ev : (Try.prog.info? 67).map (fun i => (i.zero, i.size, i.bytes)) = some (some (.agg #[.int .i64 0, .int .i64 0, .int .i64 0, .int .i64 0, .bool false, .int .i64 0, .int .u8 0]), 7, 56) := by kernel_rfl

theorem reads_lit {W : World} {k size n : Nat} {e : TypeId} {xs : List Value} (h : W.heap[k]? = some (.cells xs.toArray e)) (hl : xs.length = n * size) : Reads W size (some ⟨k, 0, none⟩) n xs :=
  ⟨hl, fun _ => ⟨_, rfl, by
    intro j u hj
    rw [show (⟨k, 0, none⟩ : Addr).add j = ⟨k, 0 + j, none⟩ by unfold Addr.add; split <;> simp_all]
    rw [blk_cell h]
    simpa using hj⟩⟩
theorem own_at {W : World} {base k size n : Nat} {e : TypeId} {xs : List Value} (h : W.heap[k]? = some (.cells xs.toArray e)) (hB : base ≤ k) (hm : n ≤ maxLen) (hn : xs.length = n * size) : W.ownsRow base e size (.slice (some ⟨k, 0, none⟩) n n) n xs :=
  ⟨hn, .inr ⟨k, n, xs.toArray, rfl, hB, h, Nat.le_refl _, hm, by simp [hn], by simp [← hn]⟩⟩
theorem evRow_one {W : World} {B k : Nat} {x : Ev} (h : W.heap[k]? = some (.cells #[.int .i64 x.kind, .int .i64 x.at_, .int .i64 x.h.cl, .int .i64 x.h.tag, .bool x.h.cons, .int .i64 x.h.len, .int .u8 x.b] 67)) (hB : B ≤ k) : EvRow W B (.slice (some ⟨k, 0, none⟩) 1 1) [x] :=
  own_at h hB (by unfold maxLen; omega) rfl
/-- A Machine lies at block gm; cm: its bytes of a head; cr: its Reader's. -/
structure IsM (w : World) (B gm go gh : Nat) (vr vm : Value) (most : Nat) (lefts : List Int) (leaf : Int) (cm cr : List Int) (begun : Bool) (at_ : Int) : Prop where
  blk : w.heap[gm]? = some (.cells #[.pointer (some ⟨go, 0, none⟩), .pointer (some ⟨gh, 0, none⟩), vm, .int .i64 leaf, .int .i64 at_, .bool begun, .int .i64 0] 160 (0, 0))
  ge : B ≤ gm
  stk : IsStack w B go most lefts
  rdr : IsReader w B gh vr cr
  row : w.ownsRow B 5 1 vm cm.length (nums cm)
  ne : vr.ownBlock = none ∨ vr.ownBlock ≠ vm.ownBlock

theorem IsStack.blk_ {w : World} {B g most : Nat} {ls : List Int} (h : IsStack w B g most ls) : ∃ cs : Array Value, w.heap[g]? = some (.cells cs 224 (0, 0)) := by
  obtain ⟨cs, hb, _⟩ := h; exact ⟨cs, hb⟩
theorem own_far {w : World} {base n size k : Nat} {e t : TypeId} {v : Value} {xs : List Value} {cs : Array Value} (h : w.ownsRow base e size v n xs) (hk : w.heap[k]? = some (.cells cs t (0, 0))) (hne : e ≠ t) : ∀ i, some i = v.ownBlock → i ≠ k := by
  intro i hi e1; subst e1; exact own_ne h hk hne hi

section
variable {w w' : World} {B gm go gh : Nat} {vr vm : Value} {most : Nat} {lefts : List Int} {leaf : Int} {cm cr : List Int} {begun : Bool} {at_ : Int}
theorem IsM.gm_go (h : IsM w B gm go gh vr vm most lefts leaf cm cr begun at_) : gm ≠ go := by
  obtain ⟨cs, hb⟩ := h.stk.blk_
  exact blk_ne h.blk hb (by decide)
theorem IsM.gm_gh (h : IsM w B gm go gh vr vm most lefts leaf cm cr begun at_) : gm ≠ gh := blk_ne h.blk h.rdr.1 (by decide)
theorem IsM.go_gh (h : IsM w B gm go gh vr vm most lefts leaf cm cr begun at_) : go ≠ gh := by
  obtain ⟨cs, hb⟩ := h.stk.blk_
  exact blk_ne hb h.rdr.1 (by decide)
theorem IsM.vm_gm (h : IsM w B gm go gh vr vm most lefts leaf cm cr begun at_) : some gm ≠ vm.ownBlock := own_ne h.row h.blk (by decide)
theorem IsM.vr_gm (h : IsM w B gm go gh vr vm most lefts leaf cm cr begun at_) : some gm ≠ vr.ownBlock := own_ne h.rdr.2.2 h.blk (by decide)
theorem IsM.vm_gh (h : IsM w B gm go gh vr vm most lefts leaf cm cr begun at_) : some gh ≠ vm.ownBlock := own_ne h.row h.rdr.1 (by decide)
theorem IsM.vr_gh (h : IsM w B gm go gh vr vm most lefts leaf cm cr begun at_) : some gh ≠ vr.ownBlock := own_ne h.rdr.2.2 h.rdr.1 (by decide)
theorem IsM.vm_go (h : IsM w B gm go gh vr vm most lefts leaf cm cr begun at_) : some go ≠ vm.ownBlock := by
  obtain ⟨cs, hb⟩ := h.stk.blk_; exact own_ne h.row hb (by decide)
theorem IsM.vr_go (h : IsM w B gm go gh vr vm most lefts leaf cm cr begun at_) : some go ≠ vr.ownBlock := by
  obtain ⟨cs, hb⟩ := h.stk.blk_; exact own_ne h.rdr.2.2 hb (by decide)
/-- Nothing of it has changed. -/
theorem IsM.keep (h : IsM w B gm go gh vr vm most lefts leaf cm cr begun at_) {S : Nat → Prop} (k : Fr S w w') (h1 : ¬ S gm) (h2 : ¬ S go) (h3 : ¬ S gh) (h4 : ∀ i, some i = vr.ownBlock → ¬ S i) (h5 : ∀ i, some i = vm.ownBlock → ¬ S i) :
    IsM w' B gm go gh vr vm most lefts leaf cm cr begun at_ :=
  ⟨k.blk h.blk h1, h.ge, h.stk.keep k h2, h.rdr.keep k h3 h4, k.own h.row h5, h.ne⟩
theorem IsM.below (h : IsM w B gm go gh vr vm most lefts leaf cm cr begun at_) (k : Below w.heap.size w w') : IsM w' B gm go gh vr vm most lefts leaf cm cr begun at_ :=
  h.keep (Fr.of_below (S := fun _ => False) k) (fun h => h) (fun h => h) (fun h => h) (fun _ _ h => h) (fun _ _ h => h)
theorem IsM.drewN (h : IsM w B gm go gh vr vm most lefts leaf cm cr begun at_) (n : Nat) : IsM (w.drewN n) B gm go gh vr vm most lefts leaf cm cr begun at_ := ⟨h.blk, h.ge, h.stk, h.rdr, h.row, h.ne⟩
theorem IsM.drew (h : IsM w B gm go gh vr vm most lefts leaf cm cr begun at_) : IsM w.drew B gm go gh vr vm most lefts leaf cm cr begun at_ := ⟨h.blk, h.ge, h.stk, h.rdr, h.row, h.ne⟩
/-- Its stack has changed. -/
theorem IsM.stack (h : IsM w B gm go gh vr vm most lefts leaf cm cr begun at_) (k : Fr (· = go) w w') {ls : List Int} (hs : IsStack w' B go most ls) : IsM w' B gm go gh vr vm most ls leaf cm cr begun at_ :=
  ⟨k.blk h.blk h.gm_go, h.ge, hs, h.rdr.keep k h.go_gh.symm (fun i hi e => h.vr_go (by rw [← e]; exact hi)), k.own h.row (fun i hi e => h.vm_go (by rw [← e]; exact hi)), h.ne⟩
/-- Its Reader has changed. -/
theorem IsM.reader (h : IsM w B gm go gh vr vm most lefts leaf cm cr begun at_) (k : Fr (fun k => k = gh ∨ some k = vr.ownBlock) w w') {vr' : Value} (hv : vr'.ownBlock = vr.ownBlock ∨ ∃ k, vr'.ownBlock = some k ∧ w.heap.size ≤ k) {cr' : List Int} (hr : IsReader w' B gh vr' cr') :
    IsM w' B gm go gh vr' vm most lefts leaf cm cr' begun at_ := by
  refine ⟨k.blk h.blk ?_, h.ge, h.stk.keep k ?_, hr, k.own h.row ?_, ?_⟩
  · rintro (e | e)
    · exact h.gm_gh e
    · exact h.vr_gm e
  · rintro (e | e)
    · exact h.go_gh e
    · exact h.vr_go e
  · rintro i hi (e | e)
    · subst e; exact h.vm_gh hi
    · rcases h.ne with q | q
      · rw [q] at e; cases e
      · exact q (e.symm.trans hi)
  · rcases hv with e | ⟨i, e, hi⟩
    · rw [e]; exact h.ne
    · right
      rw [e]
      intro e2
      have := (h.row.lt _ e2.symm).2
      omega
/-- Its row of bytes has changed. -/
theorem IsM.came (h : IsM w B gm go gh vr vm most lefts leaf cm cr begun at_) (k : Fr (fun k => some k = vm.ownBlock) w w') {vm' : Value} (hv : vm'.ownBlock = vm.ownBlock ∨ ∃ k, vm'.ownBlock = some k ∧ w.heap.size ≤ k) {cm' : List Int}
    (hr : w'.ownsRow B 5 1 vm' cm'.length (nums cm')) : IsM (w'.setCell ⟨gm, 2, none⟩ vm') B gm go gh vr vm' most lefts leaf cm' cr begun at_ := by
  have k2 : Fr (· = gm) w' (w'.setCell ⟨gm, 2, none⟩ vm') := (Fr.refl (· = gm) _).setCell (fun _ => (rfl : gm = gm)) _
  have hb := k.blk h.blk (fun e => h.vm_gm e)
  have hst := (h.stk.keep k (fun e => h.vm_go e))
  have hrd := (h.rdr.keep k (fun e => h.vm_gh e) (fun i hi e => (by
    rcases h.ne with q | q
    · rw [q] at hi; cases hi
    · exact q (hi.symm.trans e))))
  refine ⟨blk_set hb 2 vm', h.ge, hst.keep k2 h.gm_go.symm, hrd.keep k2 h.gm_gh.symm (fun i hi e => h.vr_gm (by rw [← e]; exact hi)), k2.own hr (fun i hi e => ?_), ?_⟩
  · exact own_ne hr hb (by decide) (by rw [← e]; exact hi)
  · rcases hv with e | ⟨i, e, hi⟩
    · rw [e]; exact h.ne
    · rcases h.rdr.2.2.2 with _ | _
      · rw [e]
        rcases h.ne with q | q
        · exact .inl q
        · right; intro e2; have := (h.rdr.2.2.lt _ e2).2; omega
      · rw [e]
        right; intro e2; have := (h.rdr.2.2.lt _ e2).2; omega
theorem IsM.set {i : Nat} {u : Value} (h : IsM w B gm go gh vr vm most lefts leaf cm cr begun at_) {leaf' : Int} {begun' : Bool} {at' : Int}
    (hc : (#[.pointer (some ⟨go, 0, none⟩), .pointer (some ⟨gh, 0, none⟩), vm, .int .i64 leaf, .int .i64 at_, .bool begun, .int .i64 0] : Array Value).setIfInBounds i u = #[.pointer (some ⟨go, 0, none⟩), .pointer (some ⟨gh, 0, none⟩), vm, .int .i64 leaf', .int .i64 at', .bool begun', .int .i64 0]) :
    IsM (w.setCell ⟨gm, i, none⟩ u) B gm go gh vr vm most lefts leaf' cm cr begun' at' := by
  have k2 : Fr (· = gm) w (w.setCell ⟨gm, i, none⟩ u) := (Fr.refl (· = gm) _).setCell (fun _ => (rfl : gm = gm)) _
  refine ⟨(blk_set h.blk i u).trans (by rw [hc]), h.ge, h.stk.keep k2 h.gm_go.symm, h.rdr.keep k2 h.gm_gh.symm (fun i hi e => h.vr_gm (by rw [← e]; exact hi)), k2.own h.row (fun i hi e => h.vm_gm (by rw [← e]; exact hi)), h.ne⟩
theorem IsM.leaf_ (h : IsM w B gm go gh vr vm most lefts leaf cm cr begun at_) (x : Int) : IsM (w.setCell ⟨gm, 3, none⟩ (.int .i64 x)) B gm go gh vr vm most lefts x cm cr begun at_ := h.set rfl
theorem IsM.at__ (h : IsM w B gm go gh vr vm most lefts leaf cm cr begun at_) (x : Int) : IsM (w.setCell ⟨gm, 4, none⟩ (.int .i64 x)) B gm go gh vr vm most lefts leaf cm cr begun x := h.set rfl
theorem IsM.begun_ (h : IsM w B gm go gh vr vm most lefts leaf cm cr begun at_) (x : Bool) : IsM (w.setCell ⟨gm, 5, none⟩ (.bool x)) B gm go gh vr vm most lefts leaf cm cr x at_ := h.set rfl
theorem IsM.lt (h : IsM w B gm go gh vr vm most lefts leaf cm cr begun at_) : gm < w.heap.size ∧ go < w.heap.size ∧ gh < w.heap.size := ⟨blk_lt h.blk, h.stk.lt, blk_lt h.rdr.1⟩
/-- A Machine's block. -/
def HasM (w : World) (gm : Nat) : Prop := ∃ cs : Array Value, w.heap[gm]? = some (.cells cs 160 (0, 0)) ∧ cs.size = 7
theorem IsM.has (h : IsM w B gm go gh vr vm most lefts leaf cm cr begun at_) : HasM w gm := ⟨_, h.blk, rfl⟩
theorem HasM.below (h : HasM w gm) (k : Below w.heap.size w w') : HasM w' gm := by
  obtain ⟨cs, hb, hs⟩ := h
  exact ⟨cs, (k.block _ (blk_lt hb)).trans hb, hs⟩
/-- The types whose blocks a Machine may write. -/
def mT : List TypeId := [160, 224, 226, 5]
theorem Kp.of_fr {S : Nat → Prop} {ts : List TypeId} (k : Fr S w w') (hs : ∀ i, i < w.heap.size → S i → B ≤ i ∧ ∃ cs t fz, w.heap[i]? = some (.cells cs t fz) ∧ t ∈ ts) : Kp B ts w w' :=
  ⟨k.os, k.tape, k.output, k.size, fun i hi hl => k.keep i hl fun e => by have := (hs i hl e).1; omega,
   fun i o ho ht => (k.keep i (blk_lt ho) fun e => by
    obtain ⟨_, cs, t, fz, hb, hm⟩ := hs i (blk_lt ho) e
    rw [ho] at hb
    injection hb with hb
    subst hb
    exact ht t rfl hm).trans ho⟩
theorem IsM.kp (h : IsM w B gm go gh vr vm most lefts leaf cm cr begun at_) {S : Nat → Prop} (k : Fr S w w') (hs : ∀ i, i < w.heap.size → S i → i = gm ∨ i = go ∨ i = gh ∨ some i = vr.ownBlock ∨ some i = vm.ownBlock) : Kp B mT w w' := by
  have row : ∀ {v : Value} {n : Nat} {xs : List Value} {i : Nat}, w.ownsRow B 5 1 v n xs → some i = v.ownBlock → B ≤ i ∧ ∃ cs t fz, w.heap[i]? = some (.cells cs t fz) ∧ t ∈ mT := by
    intro v n xs i ho hi
    rcases ho.2 with ⟨rfl, _⟩ | ⟨g, cap, cur, rfl, hg, hh, _⟩
    · simp [Value.ownBlock] at hi
    · have : i = g := by simpa [Value.ownBlock] using hi
      subst this
      exact ⟨hg, _, _, _, hh, by simp [mT]⟩
  refine Kp.of_fr k fun i hl hi => ?_
  rcases hs i hl hi with rfl | rfl | rfl | e | e
  · exact ⟨h.ge, _, _, _, h.blk, by simp [mT]⟩
  · obtain ⟨cs, hb⟩ := h.stk.blk_
    exact ⟨h.stk.ge, _, _, _, hb, by simp [mT]⟩
  · exact ⟨h.rdr.2.1, _, _, _, h.rdr.1, by simp [mT]⟩
  · exact row h.rdr.2.2 e
  · exact row h.row e
end
end Go.Proofs.Ytkabmmpccfeffaa
