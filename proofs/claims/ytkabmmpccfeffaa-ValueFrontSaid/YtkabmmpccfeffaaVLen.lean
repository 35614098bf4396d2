/- Layer 6 (length.Get): by contract. -/
import Derived.Test.YtkabmmpccfeffaaVIdent2
namespace Go.Proofs.Ytkabmmpccfeffaa
open Go.RowKit
set_option linter.unusedVariables false
set_option linter.unusedSimpArgs false

/-- A length's further bytes: r of c of them still to come behind place k; n: what came. What it tells: error, place, length. -/
def lenGo (b : ByteArray) (c k : Nat) : Nat → Int → Int × Int × Int
  | 0, n => if 2305843009213693951 < n then (4, k + c, 0) else (0, k + 1 + c, n)
  | r + 1, n =>
    if (b.size : Int) ≤ k + 1 + (c - (r + 1) : Int) then (2, b.size, 0)
    else if r + 1 = c ∧ (bt b (k + 1) = 0 ∨ c = 1 ∧ bt b (k + 1) < 128) then (4, k + 1, 0)
    else lenGo b c k r (n * 256 + bt b (k + 1 + (c - (r + 1) : Int)))
/-- What length.Get tells at place k: error, place, length. -/
def lenRes (b : ByteArray) (k : Nat) : Int × Int × Int :=
  if k = b.size then (2, k, 0)
  else if bt b k < 128 then (0, k + 1, bt b k)
  else if bt b k = 128 ∨ 136 < bt b k then (4, k, 0)
  else lenGo b (bt b k - 128).toNat k (bt b k - 128).toNat 0
def LenPost (r : Int × Int × Int) (w : World) (e : Ending) (w' : World) : Prop := e = .returned (.tuple #[.int .i64 r.2.2, .int .i64 r.2.1, .int .i64 r.1]) ∧ w' = w
theorem LenPost.mk {r : Int × Int × Int} {w : World} (x y z : Int) (h : r = (z, y, x)) : LenPost r w (.returned (.tuple #[.int .i64 x, .int .i64 y, .int .i64 z])) w := by
  subst h; exact ⟨rfl, rfl⟩
theorem or_u64 (a b : Nat) (ha : a < 72057594037927936) (hb : b < 256) : bits .or .u64 ((a : Int) * 256) (b : Int) = (a : Int) * 256 + b := by
  have e : ((a : Int) * 256) = ((a * 256 : Nat) : Int) := by omega
  have hx : a * 256 ||| b < 2 ^ 64 := Nat.or_lt_two_pow (by omega) (by omega)
  have h1 : (BitVec.ofInt 64 ((a * 256 : Nat) : Int)).toNat = a * 256 := by
    rw [BitVec.ofInt_natCast, BitVec.toNat_ofNat]; exact Nat.mod_eq_of_lt (by omega)
  have h2 : (BitVec.ofInt 64 (b : Int)).toNat = b := by
    rw [BitVec.ofInt_natCast, BitVec.toNat_ofNat]; exact Nat.mod_eq_of_lt (by omega)
  have h := Nat.two_pow_add_eq_or_of_lt (i := 8) (b := b) (by omega) a
  have h3 : a * 256 ||| b = a * 256 + b := by
    rw [show a * 256 = 2 ^ 8 * a by omega]; exact h.symm
  rw [e]
  show IntKind.u64.wrap ((BitVec.ofInt 64 ((a * 256 : Nat) : Int) ||| BitVec.ofInt 64 (b : Int)).toNat : Int) = _
  rw [BitVec.toNat_or, h1, h2, h3]
  have h4 : IntKind.u64.wrap ((a * 256 + b : Nat) : Int) = ((a * 256 + b : Nat) : Int) := by
    have hp : (2 : Int) ^ IntKind.u64.bits = 18446744073709551616 := by decide
    unfold IntKind.wrap
    rw [if_neg (by simp [IntKind.signed]), hp]
    exact Int.emod_eq_of_lt (by omega) (by omega)
  rw [h4]
  omega

set_option maxRecDepth 100000 in
set_option maxHeartbeats 400000 in
theorem len_short (w : World) (b : ByteArray) (k : Nat) (h : k ≤ b.size) (hs : b.size ≤ 1000000) (hl : k = b.size ∨ bt b k < 129 ∨ 136 < bt b k) :
    Calls Try.prog 191 #[.string b, .int .i64 k] w (LenPost (lenRes b k) w) := by
  have h0 : (0 : Int) ≤ k := by omega
  have hsz : decide ((b.size : Int) < (k : Int)) = false := by simp; omega
  have hsn : decide (b.size < k) = false := by simp; omega
  by_cases hk : k = b.size
  · have e1 : lenRes b k = (2, (k : Int), 0) := by unfold lenRes; rw [if_pos hk]
    have h3 : ((k : Int) == (b.size : Int)) = true := by simp; omega
    have E1 := Lib.hid e1
    clear hl hk h e1
    go_enter Try.func191, Try.ntmps191
    go_wp2_with fail
    go_ret3
    exact LenPost.mk _ _ _ E1.out
  · have hk2 : k < b.size := by omega
    have h3 : ((k : Int) == (b.size : Int)) = false := by simp; omega
    have h4 : (k : Int) < (b.size : Int) := by omega
    have hx : (b[k]'hk2).toNat < 256 := UInt8.toNat_lt _
    have hbt : ((b[k]'hk2).toNat : Int) = bt b k := bt_nat b k hk2
    have e1 : lenRes b k = if bt b k < 128 then (0, (k : Int) + 1, bt b k) else if bt b k = 128 ∨ 136 < bt b k then (4, (k : Int), 0) else lenGo b (bt b k - 128).toNat k (bt b k - 128).toNat 0 := by unfold lenRes; rw [if_neg hk]
    rw [← hbt] at e1
    have hl' : ((b[k]'hk2).toNat : Int) < 129 ∨ 136 < ((b[k]'hk2).toNat : Int) := by omega
    have E1 := Lib.hid e1
    clear hl hk h e1 hbt
    go_enter Try.func191, Try.ntmps191
    go_wp2_with fail
    · go_ret3
      refine LenPost.mk _ _ _ ?_
      rw [E1.out, if_pos (by with_reducible assumption)]
    · go_ret3
      refine LenPost.mk _ _ _ ?_
      have g1 : 128 ≤ ((b[k]'hk2).toNat : Int) := by with_reducible assumption
      have g2 : ((b[k]'hk2).toNat : Int) - 128 = 0 := by with_reducible assumption
      rw [E1.out, if_neg (by omega), if_pos (by omega)]
    · go_ret3
      refine LenPost.mk _ _ _ ?_
      have g1 : 128 ≤ ((b[k]'hk2).toNat : Int) := by with_reducible assumption
      rw [E1.out, if_neg (by omega), if_pos (by omega)]

set_option maxRecDepth 100000 in
set_option maxHeartbeats 1000000 in
theorem len_long (w : World) (b : ByteArray) (k : Nat) (h : k < b.size) (hs : b.size ≤ 1000000) (hl : 128 < bt b k) (hl2 : bt b k ≤ 136) :
    Calls Try.prog 191 #[.string b, .int .i64 k] w (LenPost (lenRes b k) w) := by
  have h0 : (0 : Int) ≤ k := by omega
  have h3 : (k : Int) < (b.size : Int) := by omega
  have hx : (b[k]'h).toNat < 256 := UInt8.toNat_lt _
  have hbt : ((b[k]'h).toNat : Int) = bt b k := bt_nat b k h
  obtain ⟨c, hc⟩ : ∃ c : Nat, ((b[k]'h).toNat : Int) - 128 = c := ⟨((b[k]'h).toNat - 128), by omega⟩
  have e1 : lenRes b k = lenGo b c k c 0 := by
    unfold lenRes
    rw [if_neg (by omega), if_neg (by omega), if_neg (by omega), ← hbt, hc]
    rfl
  rw [e1]
  generalize hz : lenGo b c k c 0 = z
  have c0 : 128 ≤ ((b[k]'h).toNat : Int) := by omega
  have c2 : ((c : Int) == 0) = false := by simp; omega
  have c3 : decide ((8 : Int) < (c : Int)) = false := by simp; omega
  have c4 : (c : Int) ≤ 8 := by omega
  have c5 : 0 < c := by omega
  have HZ := Lib.hid hz
  clear hbt hl hl2 e1 hz
  have hsz : decide ((b.size : Int) < (k : Int)) = false := by simp; omega
  have hsn : decide (b.size < k) = false := by simp; omega
  have hk0 : decide ((k : Int) < 0) = false := by simp
  have hke : ((k : Int) == (b.size : Int)) = false := by simp; omega
  have hkn : (k == b.size) = false := by simp; omega
  have hkl : decide (((b[k]'h).toNat : Int) < 128) = false := by simp; omega
  go_enter Try.func191, Try.ntmps191
  go_wp2_with fail
  have HC := Lib.hid hc
  clear hc c0
  go_loop [9, 44] (fun v i => ∃ (n j : Nat), v = .int .u64 n ∧ i = .int .i64 j ∧ j ≤ c ∧ Hid (n < 256 ^ j ∧ lenGo b c k (c - j) n = z)) (fun _ i => c - (intOf i).toNat)
  case atStart => exact ⟨0, 0, rfl, rfl, Nat.zero_le _, Lib.hid ⟨by decide, HZ.out⟩⟩
  case round =>
    obtain ⟨n, j, rfl, rfl, hj, HN⟩ := hrel
    by_cases hlt : j < c
    · have hn2 : n < 72057594037927936 := Nat.lt_of_lt_of_le HN.out.1 (Nat.pow_le_pow_right (by decide) (by omega : j ≤ 7))
      have d1 : (j : Int) < (c : Int) := by omega
      have hgo := HN.out.2
      obtain ⟨r, hr⟩ : ∃ r, c - j = r + 1 := ⟨c - j - 1, by omega⟩
      rw [hr] at hgo
      simp only [lenGo] at hgo
      have hrj : (c : Int) - ((r : Int) + 1) = j := by omega
      rw [hrj] at hgo
      by_cases hon : b.size ≤ k + 1 + j
      · rw [if_pos (by omega)] at hgo
        have G := Lib.hid hgo
        have d2 : (b.size : Int) ≤ (k : Int) + 1 + (j : Int) := by omega
        clear hgo hr hrj
        go_wp2_with fail
        go_ret3
        exact LenPost.mk _ _ _ G.out.symm
      · rw [if_neg (by omega)] at hgo
        have d2 : (k : Int) + 1 + (j : Int) < (b.size : Int) := by omega
        have d3 : k + 1 + j < b.size := by omega
        have hy : (b[k + 1 + j]'d3).toNat < 256 := UInt8.toNat_lt _
        have hbj : ((b[k + 1 + j]'d3).toNat : Int) = bt b (k + 1 + j) := by rw [bt_nat b _ d3]; congr 1
        have d5 : bits .or .u64 ((n : Int) * 256) ((b[k + 1 + j]'d3).toNat : Int) = (n : Int) * 256 + ((b[k + 1 + j]'d3).toNat : Int) := or_u64 n _ hn2 (by omega)
        have hnext : n * 256 + (b[k + 1 + j]'d3).toNat < 256 ^ (j + 1) := by have := HN.out.1; rw [Nat.pow_succ]; omega
        rw [← hbj] at hgo
        by_cases hj0 : j = 0
        · subst hj0
          have hb1 : ((b[k + 1]'(by omega)).toNat : Int) = bt b (k + 1) := by rw [bt_nat b _ (show k + 1 < b.size by omega)]; congr 1
          have d5' : bits .or .u64 ((n : Int) * 256) ((b[k + 1]'(by omega)).toNat : Int) = (n : Int) * 256 + ((b[k + 1]'(by omega)).toNat : Int) := d5
          have hy' : (b[k + 1]'(by omega)).toNat < 256 := hy
          by_cases hbad : bt b (k + 1) = 0 ∨ c = 1 ∧ bt b (k + 1) < 128
          · rw [if_pos ⟨by omega, hbad⟩] at hgo
            have G := Lib.hid hgo
            rw [← hb1] at hbad
            have key : ((((b[k + 1]'(by omega)).toNat : Int) == 0) = true) ∨ (((((b[k + 1]'(by omega)).toNat : Int) == 0) = false) ∧ ((c : Int) == 1) = true ∧ ((b[k + 1]'(by omega)).toNat : Int) < 128) := by
              by_cases q : ((b[k + 1]'(by omega)).toNat : Int) = 0
              · exact .inl (by simpa using q)
              · exact .inr ⟨by simpa using q, by have := hbad.resolve_left q; simp; omega, (hbad.resolve_left q).2⟩
            clear hgo hr hrj hbj hb1 hbad
            rcases key with q1 | ⟨q1, q2, q3⟩
            all_goals
              go_wp2_with fail
              go_ret3
              exact LenPost.mk _ _ _ G.out.symm
          · rw [if_neg (by omega)] at hgo
            have hcj : c - (0 + 1) = r := by omega
            rw [← hcj] at hgo
            have G := Lib.hid (show n * 256 + (b[k + 1 + 0]'d3).toNat < 256 ^ (0 + 1) ∧ lenGo b c k (c - (0 + 1)) ((n * 256 + (b[k + 1 + 0]'d3).toNat : Nat) : Int) = z from ⟨hnext, by rw [← hgo]; congr 1⟩)
            rw [← hb1] at hbad
            have q1 : (((b[k + 1]'(by omega)).toNat : Int) == 0) = false := beq_eq_false_iff_ne.2 (by omega)
            have key : ((c : Int) == 1) = false ∨ ((c : Int) == 1) = true ∧ 128 ≤ ((b[k + 1]'(by omega)).toNat : Int) := by
              by_cases q : (c : Int) = 1
              · exact .inr ⟨by simpa using q, by omega⟩
              · exact .inl (by simpa using q)
            clear hgo hr hrj hbj hb1 hbad hcj hnext
            rcases key with q2 | ⟨q2, q3⟩
            all_goals
              go_wp2_with fail
              go_round
              case rel => exact ⟨n * 256 + (b[k + 1]'(by omega)).toNat, 0 + 1, by go_num, by go_num, by omega, G⟩
              case measure => simp [intOf]; omega
        · rw [if_neg (by omega)] at hgo
          have hcj : c - (j + 1) = r := by omega
          rw [← hcj] at hgo
          have G := Lib.hid (show n * 256 + (b[k + 1 + j]'d3).toNat < 256 ^ (j + 1) ∧ lenGo b c k (c - (j + 1)) ((n * 256 + (b[k + 1 + j]'d3).toNat : Nat) : Int) = z from ⟨hnext, by rw [← hgo]; congr 1⟩)
          have q1 : ((j : Int) == 0) = false := by simp; omega
          clear hgo hr hrj hbj hcj hnext
          go_wp2_with fail
          go_round
          case rel => exact ⟨n * 256 + (b[k + 1 + j]'d3).toNat, j + 1, by go_num, by go_num, by omega, G⟩
          case measure => simp [intOf]; omega
    · have hgo := HN.out.2
      have hn2 : n < 18446744073709551616 := Nat.lt_of_lt_of_le HN.out.1 (Nat.pow_le_pow_right (by decide) (by omega : j ≤ 8))
      rw [show c - j = 0 by omega] at hgo
      simp only [lenGo] at hgo
      have G := Lib.hid hgo
      clear hgo
      have d1 : (c : Int) ≤ (j : Int) := by omega
      go_wp2_with fail
      · go_ret3
        refine LenPost.mk _ _ _ ?_
        rw [← G.out, if_pos (by with_reducible assumption)]
      · go_ret3
        refine LenPost.mk _ _ _ ?_
        have : (n : Int) ≤ 2305843009213693951 := by with_reducible assumption
        rw [← G.out, if_neg (by omega)]
theorem len_any (w : World) (b : ByteArray) (k : Nat) (h : k ≤ b.size) (hs : b.size ≤ 1000000) : Calls Try.prog 191 #[.string b, .int .i64 k] w (LenPost (lenRes b k) w) := by
  by_cases hl : k = b.size ∨ bt b k < 129 ∨ 136 < bt b k
  · exact len_short w b k h hs hl
  · exact len_long w b k (by omega) hs (by omega) (by omega)
end Go.Proofs.Ytkabmmpccfeffaa
