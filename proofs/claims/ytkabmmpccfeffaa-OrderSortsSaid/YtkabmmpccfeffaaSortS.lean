/- gantletref16.Sort: by contract. -/
import Derived.Test.YtkabmmpccfeffaaSortR
import Derived.Deep.RegionHeld3
import Derived.Deep.DrawnRows
namespace Go.Proofs.Ytkabmmpccfeffaa
open Go.RowKit
set_option linter.unusedVariables false
set_option linter.unusedSimpArgs false
attribute [local go_sem ↓] Go.wp_at_zero Go.wp_at_succ

theorem info_str2 : (Try.prog.info? 9).map (fun i => (i.zero, i.size, i.bytes)) = some (some (.string ByteArray.empty), 1, 16) := by kernel_rfl

/-- A quiet call in a world that has drawn before. -/
theorem quiet_more {P : Program} {f : FuncId} {args : Array Value} {w : World} {a n : Nat} {v : Value} (h : Calls P f args (w.drewN (a + n)) fun e w' => e = .returned v ∧ w.drewN (a + n) = w') :
    Calls P f args (w.drewN (a + n)) fun e w'' => e = .returned v ∧ ∃ m, w'' = w.drewN (a + m) := h.mono fun _ _ ⟨he, hm⟩ => ⟨he, n, hm.symm⟩

/-- The strings d (τ 0), .., d (τ (n-1)), as values. -/
def vals (d : Nat → ByteArray) (τ : Nat → Nat) (n : Nat) : List Value := (List.range n).map fun k => .string (d (τ k))
theorem vals_length (d : Nat → ByteArray) (τ : Nat → Nat) (n : Nat) : (vals d τ n).length = n := by simp [vals]
theorem vals_get (d : Nat → ByteArray) (τ : Nat → Nat) {n k : Nat} (h : k < n) : (vals d τ n)[k]? = some (.string (d (τ k))) := by simp [vals, h]
theorem vals_one (d : Nat → ByteArray) (τ : Nat → Nat) (n : Nat) : ∀ u ∈ vals d τ n, u.oneCell' = true := by
  intro u hu
  obtain ⟨a, _, rfl⟩ := List.mem_map.1 hu
  rfl
/-- Row i put in at place k: the list of values behind it. -/
theorem vals_ins (d : Nat → ByteArray) (τ : Nat → Nat) (i k : Nat) (hk : k ≤ i) (hi : τ i = i) : (vals d τ i).take k ++ [.string (d i)] ++ (vals d τ i).drop k = vals d (rotF τ k i (i + 1)) (i + 1) := by
  apply List.ext_getElem?
  intro j
  by_cases hj : j < i + 1
  · rw [vals_get _ _ hj]
    by_cases c1 : j < k
    · rw [rot1 c1, List.append_assoc, List.getElem?_append_left (by simp [vals_length]; omega), List.getElem?_take, if_pos c1, vals_get _ _ (by omega)]
    · by_cases c2 : j = k
      · subst c2
        rw [rot2 (Nat.le_refl _) (by omega), List.append_assoc, List.getElem?_append_right (by simp [vals_length]; omega)]
        have e : j - ((vals d τ i).take j).length = 0 := by simp [vals_length]; omega
        rw [e, show j - j + i = i by omega, hi]
        rfl
      · rw [rot3 (by omega) hj, List.append_assoc, List.getElem?_append_right (by simp [vals_length]; omega)]
        have e : j - ((vals d τ i).take k).length = (j - k - 1) + 1 := by simp [vals_length]; omega
        rw [e, List.cons_append, List.getElem?_cons_succ, List.nil_append, List.getElem?_drop, vals_get _ _ (by omega)]
        rw [show k + (j - k - 1) = j - (i + 1 - i) by omega]
  · rw [List.getElem?_eq_none (by simp [vals_length]; omega), List.getElem?_eq_none (by rw [vals_length]; omega)]

theorem own_take {w : World} {base n size k : Nat} {e : TypeId} {A : Option Addr} {c : Nat} {xs : List Value} (h : w.ownsRow base e size (.slice A n c) n xs) (hk : k ≤ n) : w.ownsRow base e size (.slice A k c) k (xs.take (k * size)) := by
  refine ⟨by rw [List.length_take, h.1]; exact Nat.min_eq_left (Nat.mul_le_mul_right _ hk), ?_⟩
  rcases h.2 with ⟨hv, h0⟩ | ⟨g, cap, cur, hv, hg, hh, hn, hm, hs, ht⟩
  · injection hv with e1 e2 e3
    subst e1; subst e2; subst e3
    have : k = 0 := by omega
    subst this
    exact .inl ⟨rfl, rfl⟩
  · injection hv with e1 e2 e3
    subst e1; subst e3
    refine .inr ⟨g, _, cur, rfl, hg, hh, by omega, hm, hs, ?_⟩
    rw [← ht, List.take_take]
    congr 1
    have := Nat.mul_le_mul_right size hk
    omega
theorem Reads.cut1 {w : World} {A : Option Addr} {n : Nat} {xs : List Value} (h : Reads w 1 A n xs) {k cap : Nat} (hk : k ≤ n) (hc : n ≤ cap) : Reads w 1 (if cap = k then A else A.map (·.add k)) (n - k) (xs.drop k) := by
  refine ⟨by rw [List.length_drop, h.1]; omega, fun hn => ?_⟩
  obtain ⟨ad, rfl, hcell⟩ := h.2 (by omega)
  rw [if_neg (by omega)]
  refine ⟨ad.add k, rfl, fun j u hu => ?_⟩
  have := hcell (k + j) u (by rw [← hu, List.getElem?_drop])
  have e : (ad.add k).add j = ad.add (k + j) := by
    unfold Addr.add
    by_cases h1 : k = 0 <;> by_cases h2 : j = 0 <;> simp [h1, h2, Nat.add_assoc]
  rw [e]; exact this

/-- What ref16.Sort leaves. -/
def RSorted (d : Nat → ByteArray) (n : Nat) (w : World) (e : Ending) (w' : World) : Prop :=
  ∃ A c τ, e = .returned (.slice A n c) ∧ w'.ownsRow w.heap.size 9 1 (.slice A n c) n (vals d τ n) ∧ Img id τ 0 n ∧ Srt (Prec d) τ 0 n ∧ Below w.heap.size w w'

theorem Kp.below' {B : Nat} {w w' : World} (h : Below B w w') (n : Nat) : Below B w (w'.drewN n) := ⟨h.1, h.2, h.3, h.4, h.5⟩

theorem rins_fin {d : Nat → ByteArray} {n k m B r : Nat} {D : List Value} {w w5 : World} {A5 : Option Addr} {c5 : Nat} {τ : Nat → Nat} (h : w5.ownsRow B 9 1 (.slice A5 (m + 1 + r) c5) (m + 1 + r) (((vals d τ k).take (m * 1) ++ [.string (d k)]) ++ D))
    (hr : r = k - m) (hD : D = (vals d τ k).drop m) (hm : m ≤ k) (hkn : k < n) (hi : Img id τ 0 k) (hs : Srt (Prec d) τ 0 k) (hM : ∀ x, m ≤ x → x < k → Prec d k (τ x)) (O : Ord (Prec d)) (hL : ∀ x, x < m → Prec d (τ x) k) (hb : Below B w w5) :
    ∃ (k' c g : Nat), k' ≤ n ∧ k' ≤ c ∧ Value.int .i64 ((k : Int) + 1) = .int .i64 k' ∧ Value.slice A5 (m + 1 + r) c5 = .slice (some ⟨g, 0, none⟩) k' c ∧ Hid (∃ τ, w5.ownsRow B 9 1 (.slice (some ⟨g, 0, none⟩) k' c) k' (vals d τ k') ∧ Img id τ 0 k' ∧ Srt (Prec d) τ 0 k' ∧ Below B w w5) := by
  subst hr
  subst hD
  have ht : τ k = k := hi.out k (by omega)
  have e : m + 1 + (k - m) = k + 1 := by omega
  rw [e, Nat.mul_one, vals_ins d τ k m hm ht] at h
  rw [e]
  have hx := id h
  rcases h.2 with ⟨_, h0⟩ | ⟨g, cap, cur, hv, hg, hh, hn, _⟩
  · omega
  · injection hv with e1 e2 e3
    subst e1; subst e3
    refine ⟨k + 1, _, g, by omega, hn, by simp, rfl, _, hx, (hi.wide (Nat.le_refl _) (by omega)).trans ((Img.rot τ hm (by omega)).wide (Nat.zero_le _) (Nat.le_refl _)), ?_, hb⟩
    exact srt_ins2 hs (Nat.zero_le _) hm (fun x _ hx => by rw [ht]; exact hL x hx) (fun x h1 h2 => by rw [ht]; exact hM x h1 h2)

set_option maxRecDepth 100000 in
set_option maxHeartbeats 800000 in
theorem rsort_any (d : Nat → ByteArray) (hd : ∀ i, (d i).size ≤ 65536) (O : Ord (Prec d)) {w : World} {A : Option Addr} {n cap : Nat} (h : Strs w A n d) (hn : n ≤ 100) :
    Calls Try.prog 32 #[.slice A n cap] w (RSorted d n w) := by
  have HH := Lib.hid h
  have HD := Lib.hid hd
  have HO := Lib.hid O
  clear h hd O
  go_enter Try.func32, Try.ntmps32
  go_wp2_with fail
  go_loopw [3, 4] (fun o i wr => ∃ (k c g : Nat), k ≤ n ∧ k ≤ c ∧ i = .int .i64 k ∧ o = .slice (some ⟨g, 0, none⟩) k c ∧ Hid (∃ τ, wr.ownsRow w.heap.size 9 1 (.slice (some ⟨g, 0, none⟩) k c) k (vals d τ k) ∧ Img id τ 0 k ∧ Srt (Prec d) τ 0 k ∧ Below w.heap.size w wr)) (fun _ i _ => n - (intOf i).toNat)
  case atStart => exact ⟨0, 0, _, Nat.zero_le _, Nat.zero_le _, rfl, rfl, id, own_at0 1 (heap_new rfl) (Nat.le_refl _), Img.refl _ _ _, fun k l h1 h2 h3 => by omega, (Below.refl _ _).alloc (Nat.le_refl _) _⟩
  case round =>
    obtain ⟨k, c, g, hk, hkc, rfl, rfl, HK⟩ := hrel
    obtain ⟨τ, ho, hi, hs, hb⟩ := HK.out
    have HOW := Lib.hid ho
    have HI := Lib.hid hi
    have HS := Lib.hid hs
    have HB := Lib.hid hb
    have hzr : w.heap.size ≤ wr.heap.size := hb.size
    have hgz : g < wr.heap.size := by
      rcases ho.2 with ⟨hv, _⟩ | ⟨g', _, _, hv, _, hh, _⟩
      · cases hv
      · injection hv with hv; injection hv with hv; injection hv with hv; subst hv; exact blk_lt hh
    clear ho hi hs hb HK
    by_cases hlt : k < n
    · obtain ⟨ad, rfl, hc0⟩ := HH.out k hlt
      have hck : wr.cell? (ad.add k) = some (.string (d k)) := (HB.out.cell (World.block_lt_of_cell? w _ hc0)).trans hc0
      have hti : τ k = k := HI.out.out k (by omega)
      have HTI := Lib.hid hti
      have HC0 := Lib.hid hc0
      have HAD := Lib.hid (World.block_lt_of_cell? w _ hc0)
      clear hti hc0
      go_wp2_with fail
      obtain ⟨wo, rfl⟩ : ∃ wo : World, wo = wr := ⟨_, rfl⟩
      go_loopw [5] (fun j wi => ∃ m q : Nat, m ≤ k ∧ j = .int .i64 m ∧ wi = wo.drewN q ∧ Hid (∀ x, m ≤ x → x < k → Prec d k (τ x))) (fun j _ => (intOf j).toNat)
      case atStart => exact ⟨k, 0, Nat.le_refl _, rfl, rfl, fun x h1 h2 => by omega⟩
      case round =>
        obtain ⟨m, q, hm, rfl, rfl, HM⟩ := hrel
        by_cases h0 : 0 < m
        · obtain ⟨j, rfl⟩ : ∃ j, m = j + 1 := ⟨m - 1, by omega⟩
          obtain ⟨ad2, e2, hcj⟩ := (Reads.of_own HOW.out).at_ (vals_get d τ (show j < k by omega)) (by omega)
          injection e2 with e2
          subst e2
          have hcj2 : wo.cell? ⟨g, j, none⟩ = some (.string (d (τ j))) := by
            by_cases hj0 : j = 0
            · subst hj0; simpa [Addr.add] using hcj
            · simpa [Addr.add, hj0] using hcj
          have b0 : (0 : Int) ≤ (j : Int) := by omega
          have b1 : (j : Int) < (k : Int) := by omega
          have b2 : (0 : Int) ≤ (k : Int) := by omega
          have b3 : (k : Int) < (n : Int) := by omega
          have b4 : (0 : Int) < (j : Int) + 1 := by omega
          have b5 : IntKind.i64.wrap ((j : Int) + 1 - 1) = j := IntWalk.i64_in _ (by omega) |>.trans (by omega)
          have b6 : IntKind.i64.wrap (j : Int) = j := IntWalk.i64_in _ (by omega)
          have htg : τ j < k := by obtain ⟨l, _, l2, e⟩ := HI.out.into j (by omega) (by omega); rw [e]; exact l2
          have HTG := Lib.hid htg
          clear htg
          by_cases hc : 0 < cmp (d (τ j)) (d k)
          · go_wp2_with fail
            go_quiet ((go_at_call 57; exact quiet_more (rcompare_any _ _ _ (by have := HD.out (τ j); omega) (by have := HD.out k; omega))))
            go_wp2_with fail
            go_roundw
            case rel => exact ⟨j, _, by omega, rfl, by first | rfl | exact World.drewN_drewN _ _ _, fun x h1 h2 => by
              by_cases hx : x = j
              · subst hx
                refine Classical.byContradiction fun hno => ?_
                rcases HO.out.tot (by have := HTG.out; omega) hno with h | h
                · omega
                · omega
              · exact HM.out x (by omega) h2⟩
            case measure => simp [intOf]
          · have hdc : decide (0 < cmp (d (τ j)) (d k)) = false := decide_eq_false hc
            have HLOW : Hid (Prec d (τ j) k) := (by
              refine Lib.hid ?_
              rcases Int.lt_or_eq_of_le (show cmp (d (τ j)) (d k) ≤ 0 by omega) with h | h
              · exact .inl h
              · exact .inr ⟨h, HTG.out⟩)
            go_wp2_with fail
            go_quiet ((go_at_call 57; exact quiet_more (rcompare_any _ _ _ (by have := HD.out (τ j); omega) (by have := HD.out k; omega))))
            by_cases hcj : c = j + 1
            · subst hcj
              have HR0 : Hid (Reads wo 1 (some ⟨g, 0, none⟩) 0 []) := Lib.hid (Reads.nil _ _ _)
              go_wp2_with (at_builtin; go_loud (refine wpList_app rfl (.tmp 33) (.tmp 36) 48 rfl w.heap.size 9 _ 1 16 Try.underlying48 info_str2 rfl (by omega) _ 0 0 [] rfl (own_at0 1 (heap_new rfl) (by first | omega | (simp; omega))) _ 0 _ [] rfl ((HR0.out.drewN _).alloc _) (by simp) (by unfold maxLen; omega) (by omega) (by first | omega | (simp; omega)) ?_
                                                intro A3 c3 w1 hown hgr hkp hat
                                                simp only [Nat.zero_add, List.nil_append] at hown hgr hat
                                                have hz1 := hgr.size
                                                (try simp at hz1)
                                                have HG1 : Hid (w1.ownsRow w.heap.size 9 1 (.slice (some ⟨g, 0, none⟩) k (j + 1)) k (vals d τ k)) := (by refine Lib.hid ?_; refine World.ownsRow.kept ((own_drewN HOW.out _).alloc _) hgr (.inr ?_); simp [Value.ownBlock]; omega)
                                                have HAT : Hid ((Value.slice A3 0 c3).ownBlock ≠ some g) := (by refine Lib.hid ?_; rcases hat with h | h <;> rw [h] <;> simp [Value.ownBlock] <;> omega)
                                                have HBL : Hid (Below w.heap.size w w1) := (by refine Lib.hid ?_; exact ((Kp.below' HB.out _).alloc hzr _).trans (hkp.below (by first | omega | (simp; omega))))
                                                have hck1 : w1.cell? (ad.add k) = some (.string (d k)) := (HBL.out.cell HAD.out).trans HC0.out
                                                have HOWN := Lib.hid hown
                                                clear hown hgr hat hkp))
              go_wp2_with fail
              have s1 : (j : Int) + 1 ≤ (k : Int) := by omega
              have s2 : (j : Int) + 1 ≤ ((j + 1 : Nat) : Int) := by omega
              have s3 : (0 : Int) ≤ (j : Int) + 1 := by omega
              have s4 : ((j : Int) + 1).toNat = j + 1 := by omega
              go_region_held3 (fun w' => w'.cell? (ad.add k) = some (.string (d k))) (first | go_keep | exact hck1 | exact hck4 | exact hck5) (first
                | (refine step_app rfl (.tmp 40) (.tmp 45) 48 rfl w.heap.size 9 _ 1 16 Try.underlying48 info_str2 rfl (by omega) _ (j + 1) _ ((vals d τ k).take ((j + 1) * 1)) rfl (by exact (own_take HG1.out (by omega)).alloc _) _ 1 _ [.string (d k)] rfl (by refine reads_at1 (e := 9) ?_; exact heap_new rfl) (by simp [Value.oneCell']) (by unfold maxLen; omega) (by omega) (by first | omega | (simp; omega)) ?_; intro A4 c4 w4 hown4 hgr4 hkp4 hat4; have HR4 : Hid (Reads w4 1 A3 0 []) := (by refine Lib.hid (Reads.of_own (World.ownsRow.kept (HOWN.out.alloc _) (grown_un1 hgr4) (.inr ?_))); exact HAT.out); have HBL4 : Hid (Below w.heap.size w w4) := (by refine Lib.hid ?_; exact (HBL.out.alloc HBL.out.size _).drew.trans (hkp4.below (HBL.out.alloc HBL.out.size _).size)); have hck4 : w4.cell? (ad.add k) = some (.string (d k)) := (HBL4.out.cell HAD.out).trans HC0.out; have HOWN4 := Lib.hid hown4; clear hown4 hgr4 hkp4 hat4)
                | (refine step_app rfl (.tmp 46) (.tmp 47) 48 rfl w.heap.size 9 _ 1 16 Try.underlying48 info_str2 rfl (by omega) _ (j + 1 + 1) _ _ rfl HOWN4.out A3 0 _ [] rfl HR4.out (by simp) (by unfold maxLen; omega) (by omega) (HBL4.out.size) ?_; intro A5 c5 w5 hown5 hgr5 hkp5 hat5; have HOWN5 := Lib.hid hown5; have HBL5 : Hid (Below w.heap.size w w5) := Lib.hid (HBL4.out.trans (hkp5.below HBL4.out.size)); have hck5 : w5.cell? (ad.add k) = some (.string (d k)) := (HBL5.out.cell HAD.out).trans HC0.out; clear hown5 hgr5 hkp5 hat5))
              go_wp2_with fail
              go_roundw
              case rel => exact rins_fin HOWN5.out (by omega) (by first | rfl | exact (List.drop_eq_nil_of_le (by rw [vals_length]; omega)).symm) (by omega) (by omega) HI.out HS.out HM.out HO.out (fun x hx => if e : x = j then e ▸ HLOW.out else HO.out.tr (HS.out x j (Nat.zero_le _) (by omega) (by omega)) HLOW.out) HBL5.out
              case measure => simp [intOf]; omega
            · have HR0 : Hid (Reads wo 1 (some ⟨g, j + 1, none⟩) (k - (j + 1)) ((vals d τ k).drop (j + 1))) := Lib.hid (by have h := Reads.cut1 (Reads.of_own HOW.out) (k := j + 1) (cap := c) (by omega) hkc; simpa [Addr.add, hcj] using h)
              go_wp2_with (at_builtin; go_loud (refine wpList_app rfl (.tmp 33) (.tmp 36) 48 rfl w.heap.size 9 _ 1 16 Try.underlying48 info_str2 rfl (by omega) _ 0 0 [] rfl (own_at0 1 (heap_new rfl) (by first | omega | (simp; omega))) _ (k - (j + 1)) _ ((vals d τ k).drop (j + 1)) rfl ((HR0.out.drewN _).alloc _) (fun u hu => vals_one _ _ _ u (List.mem_of_mem_drop hu)) (by unfold maxLen; omega) (by omega) (by first | omega | (simp; omega)) ?_
                                                intro A3 c3 w1 hown hgr hkp hat
                                                simp only [Nat.zero_add, List.nil_append] at hown hgr hat
                                                have hz1 := hgr.size
                                                (try simp at hz1)
                                                have HG1 : Hid (w1.ownsRow w.heap.size 9 1 (.slice (some ⟨g, 0, none⟩) k c) k (vals d τ k)) := (by refine Lib.hid ?_; refine World.ownsRow.kept ((own_drewN HOW.out _).alloc _) hgr (.inr ?_); simp [Value.ownBlock]; omega)
                                                have HAT : Hid ((Value.slice A3 (k - (j + 1)) c3).ownBlock ≠ some g) := (by refine Lib.hid ?_; rcases hat with h | h <;> rw [h] <;> simp [Value.ownBlock] <;> omega)
                                                have HBL : Hid (Below w.heap.size w w1) := (by refine Lib.hid ?_; exact ((Kp.below' HB.out _).alloc hzr _).trans (hkp.below (by first | omega | (simp; omega))))
                                                have hck1 : w1.cell? (ad.add k) = some (.string (d k)) := (HBL.out.cell HAD.out).trans HC0.out
                                                have HOWN := Lib.hid hown
                                                clear hown hgr hat hkp))
              go_wp2_with fail
              have s1 : (j : Int) + 1 ≤ (k : Int) := by omega
              have s2 : (j : Int) + 1 ≤ (c : Int) := by omega
              have s3 : (0 : Int) ≤ (j : Int) + 1 := by omega
              have s4 : ((j : Int) + 1).toNat = j + 1 := by omega
              go_region_held3 (fun w' => w'.cell? (ad.add k) = some (.string (d k))) (first | go_keep | exact hck1 | exact hck4 | exact hck5) (first
                | (refine step_app rfl (.tmp 40) (.tmp 45) 48 rfl w.heap.size 9 _ 1 16 Try.underlying48 info_str2 rfl (by omega) _ (j + 1) _ ((vals d τ k).take ((j + 1) * 1)) rfl (by exact (own_take HG1.out (by omega)).alloc _) _ 1 _ [.string (d k)] rfl (by refine reads_at1 (e := 9) ?_; exact heap_new rfl) (by simp [Value.oneCell']) (by unfold maxLen; omega) (by omega) (by first | omega | (simp; omega)) ?_; intro A4 c4 w4 hown4 hgr4 hkp4 hat4; have HR4 : Hid (Reads w4 1 A3 (k - (j + 1)) ((vals d τ k).drop (j + 1))) := (by refine Lib.hid (Reads.of_own (World.ownsRow.kept (HOWN.out.alloc _) (grown_un1 hgr4) (.inr ?_))); exact HAT.out); have HBL4 : Hid (Below w.heap.size w w4) := (by refine Lib.hid ?_; exact (HBL.out.alloc HBL.out.size _).drew.trans (hkp4.below (HBL.out.alloc HBL.out.size _).size)); have hck4 : w4.cell? (ad.add k) = some (.string (d k)) := (HBL4.out.cell HAD.out).trans HC0.out; have HOWN4 := Lib.hid hown4; clear hown4 hgr4 hkp4 hat4)
                | (refine step_app rfl (.tmp 46) (.tmp 47) 48 rfl w.heap.size 9 _ 1 16 Try.underlying48 info_str2 rfl (by omega) _ (j + 1 + 1) _ _ rfl HOWN4.out A3 (k - (j + 1)) _ ((vals d τ k).drop (j + 1)) rfl HR4.out (fun u hu => vals_one _ _ _ u (List.mem_of_mem_drop hu)) (by unfold maxLen; omega) (by omega) (HBL4.out.size) ?_; intro A5 c5 w5 hown5 hgr5 hkp5 hat5; have HOWN5 := Lib.hid hown5; have HBL5 : Hid (Below w.heap.size w w5) := Lib.hid (HBL4.out.trans (hkp5.below HBL4.out.size)); have hck5 : w5.cell? (ad.add k) = some (.string (d k)) := (HBL5.out.cell HAD.out).trans HC0.out; clear hown5 hgr5 hkp5 hat5))
              go_wp2_with fail
              go_roundw
              case rel => exact rins_fin HOWN5.out (by omega) (by first | rfl | exact (List.drop_eq_nil_of_le (by rw [vals_length]; omega)).symm) (by omega) (by omega) HI.out HS.out HM.out HO.out (fun x hx => if e : x = j then e ▸ HLOW.out else HO.out.tr (HS.out x j (Nat.zero_le _) (by omega) (by omega)) HLOW.out) HBL5.out
              case measure => simp [intOf]; omega
        · have e0 : m = 0 := by omega
          subst e0
          have hdc : decide ((0 : Int) < ((0 : Nat) : Int)) = false := by decide
          go_wp2_with fail
          go_quiet (fail)
          have HR0 : Hid (Reads wo 1 (some ⟨g, 0, none⟩) (k - 0) ((vals d τ k).drop 0)) := Lib.hid (by exact Reads.of_own HOW.out)
          go_wp2_with (at_builtin; go_loud (refine wpList_app rfl (.tmp 33) (.tmp 36) 48 rfl w.heap.size 9 _ 1 16 Try.underlying48 info_str2 rfl (by omega) _ 0 0 [] rfl (own_at0 1 (heap_new rfl) (by first | omega | (simp; omega))) _ (k - 0) _ ((vals d τ k).drop 0) rfl ((HR0.out.drewN _).alloc _) (fun u hu => vals_one _ _ _ u (List.mem_of_mem_drop hu)) (by unfold maxLen; omega) (by omega) (by first | omega | (simp; omega)) ?_
                                            intro A3 c3 w1 hown hgr hkp hat
                                            simp only [Nat.zero_add, List.nil_append] at hown hgr hat
                                            have hz1 := hgr.size
                                            (try simp at hz1)
                                            have HG1 : Hid (w1.ownsRow w.heap.size 9 1 (.slice (some ⟨g, 0, none⟩) k c) k (vals d τ k)) := (by refine Lib.hid ?_; refine World.ownsRow.kept ((own_drewN HOW.out _).alloc _) hgr (.inr ?_); simp [Value.ownBlock]; omega)
                                            have HAT : Hid ((Value.slice A3 (k - 0) c3).ownBlock ≠ some g) := (by refine Lib.hid ?_; rcases hat with h | h <;> rw [h] <;> simp [Value.ownBlock] <;> omega)
                                            have HBL : Hid (Below w.heap.size w w1) := (by refine Lib.hid ?_; exact ((Kp.below' HB.out _).alloc hzr _).trans (hkp.below (by first | omega | (simp; omega))))
                                            have hck1 : w1.cell? (ad.add k) = some (.string (d k)) := (HBL.out.cell HAD.out).trans HC0.out
                                            have HOWN := Lib.hid hown
                                            clear hown hgr hat hkp))
          go_wp2_with fail
          go_region_held3 (fun w' => w'.cell? (ad.add k) = some (.string (d k))) (first | go_keep | exact hck1 | exact hck4 | exact hck5) (first
            | (refine step_app rfl (.tmp 40) (.tmp 45) 48 rfl w.heap.size 9 _ 1 16 Try.underlying48 info_str2 rfl (by omega) _ 0 _ ((vals d τ k).take (0 * 1)) rfl (by exact (own_take HG1.out (by omega)).alloc _) _ 1 _ [.string (d k)] rfl (by refine reads_at1 (e := 9) ?_; exact heap_new rfl) (by simp [Value.oneCell']) (by unfold maxLen; omega) (by omega) (by first | omega | (simp; omega)) ?_; intro A4 c4 w4 hown4 hgr4 hkp4 hat4; have HR4 : Hid (Reads w4 1 A3 (k - 0) ((vals d τ k).drop 0)) := (by refine Lib.hid (Reads.of_own (World.ownsRow.kept (HOWN.out.alloc _) (grown_un1 hgr4) (.inr ?_))); exact HAT.out); have HBL4 : Hid (Below w.heap.size w w4) := (by refine Lib.hid ?_; exact (HBL.out.alloc HBL.out.size _).drew.trans (hkp4.below (HBL.out.alloc HBL.out.size _).size)); have hck4 : w4.cell? (ad.add k) = some (.string (d k)) := (HBL4.out.cell HAD.out).trans HC0.out; have HOWN4 := Lib.hid hown4; clear hown4 hgr4 hkp4 hat4)
            | (refine step_app rfl (.tmp 46) (.tmp 47) 48 rfl w.heap.size 9 _ 1 16 Try.underlying48 info_str2 rfl (by omega) _ (0 + 1) _ _ rfl HOWN4.out A3 (k - 0) _ ((vals d τ k).drop 0) rfl HR4.out (fun u hu => vals_one _ _ _ u (List.mem_of_mem_drop hu)) (by unfold maxLen; omega) (by omega) (HBL4.out.size) ?_; intro A5 c5 w5 hown5 hgr5 hkp5 hat5; have HOWN5 := Lib.hid hown5; have HBL5 : Hid (Below w.heap.size w w5) := Lib.hid (HBL4.out.trans (hkp5.below HBL4.out.size)); have hck5 : w5.cell? (ad.add k) = some (.string (d k)) := (HBL5.out.cell HAD.out).trans HC0.out; clear hown5 hgr5 hkp5 hat5))
          go_wp2_with fail
          go_roundw
          case rel => exact rins_fin HOWN5.out (by omega) (by first | rfl | exact (List.drop_eq_nil_of_le (by rw [vals_length]; omega)).symm) (by omega) (by omega) HI.out HS.out HM.out HO.out (fun x hx => absurd hx (Nat.not_lt_zero _)) HBL5.out
          case measure => simp [intOf]; omega
    · obtain rfl : k = n := by omega
      go_wp2_with fail
      go_ret
      exact ⟨_, c, τ, rfl, HOW.out, HI.out, HS.out, HB.out⟩
end Go.Proofs.Ytkabmmpccfeffaa
