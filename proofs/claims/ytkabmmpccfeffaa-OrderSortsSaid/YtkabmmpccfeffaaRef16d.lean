/- gantletref16.Compare answers what order.Compare does: padded with zeros and held against each other as strings. -/
import Derived.Test.YtkabmmpccfeffaaOrder
import Derived.Test.YtkabmmpccfeffaaRow
import Derived.WalkLawsBesides
namespace Go.Proofs.Ytkabmmpccfeffaa
open Go.RowKit
set_option linter.unusedVariables false
set_option linter.unusedSimpArgs false

/-- s, with zeros behind, as long as n. -/
def padTo (s : ByteArray) (n : Nat) : ByteArray := ⟨s.data ++ Array.replicate (n - s.size) 0⟩
theorem padTo_self (s : ByteArray) (n : Nat) (h : n ≤ s.size) : padTo s n = s := by
  unfold padTo
  rw [Nat.sub_eq_zero_of_le h]
  simp
theorem padTo_size (s : ByteArray) (n : Nat) (h : s.size ≤ n) : (padTo s n).size = n := by
  unfold padTo
  show (s.data ++ Array.replicate (n - s.size) 0).size = n
  rw [Array.size_append, Array.size_replicate]
  show s.size + _ = n
  omega
theorem padTo_add (s : ByteArray) (n : Nat) (h : s.size ≤ n) : padTo s n ++ (⟨#[0]⟩ : ByteArray) = padTo s (n + 1) := by
  apply ByteArray.ext
  rw [ByteArray.data_append]
  unfold padTo
  show s.data ++ Array.replicate (n - s.size) 0 ++ #[0] = s.data ++ Array.replicate (n + 1 - s.size) 0
  rw [show n + 1 - s.size = (n - s.size) + 1 by omega, ← Array.replicate_append_replicate, Array.append_assoc]
  rfl
theorem bt_get (s : ByteArray) (i : Int) : bt s i = ((s.data[i.toNat]?.getD 0).toNat : Int) := by
  unfold bt
  split
  · rename_i h
    rw [Array.getElem?_eq_getElem (show i.toNat < s.data.size from h)]
    rfl
  · rename_i h
    rw [Array.getElem?_eq_none (show s.data.size ≤ i.toNat from Nat.not_lt.1 h)]
    rfl
theorem bt_pad (s : ByteArray) (n : Nat) (i : Int) : bt (padTo s n) i = bt s i := by
  rw [bt_get, bt_get]
  unfold padTo
  show ((((s.data ++ Array.replicate (n - s.size) 0)[i.toNat]?).getD 0).toNat : Int) = _
  rw [Array.getElem?_append]
  split
  · rfl
  · rename_i h
    rw [Array.getElem?_eq_none (show s.data.size ≤ i.toNat from Nat.not_lt.1 h), Array.getElem?_replicate]
    split <;> rfl

theorem cmpz_congr (a b a' b' : ByteArray) (ha : ∀ i, bt a' i = bt a i) (hb : ∀ i, bt b' i = bt b i) : ∀ n i, cmpz a' b' n i = cmpz a b n i
  | 0, _ => rfl
  | n + 1, i => by simp only [cmpz, ha, hb, cmpz_congr a b a' b' ha hb n]

/-- Of two strings of one length: less, greater, or one. -/
theorem cmp_lists : ∀ (x y : List UInt8), x.length = y.length → ∀ (a b : ByteArray) (i : Nat), a.data.toList.drop i = x → b.data.toList.drop i = y →
    cmpz a b x.length i = if Op.bytesLess x y then -1 else if (!Op.bytesLess x y && !(x == y)) then 1 else 0
  | [], [], _, a, b, i, _, _ => by simp [cmpz, Op.bytesLess]
  | c :: x, d :: y, hl, a, b, i, hx, hy => by
    have ih := cmp_lists x y (by simpa using hl) a b (i + 1) (by rw [← List.tail_drop, hx]; rfl) (by rw [← List.tail_drop, hy]; rfl)
    have ga : a.data.toList[i]? = some c := by rw [← List.head?_drop, hx]; rfl
    have gb : b.data.toList[i]? = some d := by rw [← List.head?_drop, hy]; rfl
    have ba : bt a i = (c.toNat : Int) := by
      unfold bt
      obtain ⟨h1, h2⟩ := List.getElem?_eq_some_iff.1 ga
      rw [dif_pos (by simpa using h1)]
      congr 2
    have bb : bt b i = (d.toNat : Int) := by
      unfold bt
      obtain ⟨h1, h2⟩ := List.getElem?_eq_some_iff.1 gb
      rw [dif_pos (by simpa using h1)]
      congr 2
    have e1 : ((i : Int) + 1) = ((i + 1 : Nat) : Int) := by omega
    show cmpz a b (x.length + 1) i = _
    simp only [cmpz, ba, bb, e1, ih, Op.bytesLess]
    by_cases h1 : c < d
    · have : (c.toNat : Int) < d.toNat := by have := UInt8.lt_iff_toNat_lt.1 h1; omega
      simp [h1, this]
    · have h1' : ¬ (c.toNat : Int) < d.toNat := by intro h; apply h1; apply UInt8.lt_iff_toNat_lt.2; omega
      by_cases h2 : d < c
      · have : (d.toNat : Int) < c.toNat := by have := UInt8.lt_iff_toNat_lt.1 h2; omega
        have hne : ¬ c = d := by rintro rfl; omega
        simp [h1, h1', this, hne]
      · have h2' : ¬ (d.toNat : Int) < c.toNat := by intro h; apply h2; apply UInt8.lt_iff_toNat_lt.2; omega
        have he : c = d := UInt8.toNat_inj.1 (by omega)
        subst he
        simp
  | [], _ :: _, h, _, _, _, _, _ => by simp at h
  | _ :: _, [], h, _, _, _, _, _ => by simp at h

theorem cmp_pad (a b : ByteArray) : cmp a b =
    if Op.bytesLess (padTo a b.size).toList (padTo b a.size).toList then -1 else if (!Op.bytesLess (padTo a b.size).toList (padTo b a.size).toList && !((padTo a b.size).toList == (padTo b a.size).toList)) then 1 else 0 := by
  have la : (padTo a b.size).data.toList.length = max a.size b.size := by
    unfold padTo; simp; show a.size + (b.size - a.size) = _; omega
  have lb : (padTo b a.size).data.toList.length = max a.size b.size := by
    unfold padTo; simp; show b.size + (a.size - b.size) = _; omega
  have h := cmp_lists (padTo a b.size).data.toList (padTo b a.size).data.toList (by rw [la, lb]) (padTo a b.size) (padTo b a.size) 0 rfl rfl
  rw [la, cmpz_congr a b _ _ (bt_pad a _) (bt_pad b _)] at h
  rw [ByteArray.toList_eq, ByteArray.toList_eq]
  exact h

theorem data_size (s : ByteArray) : s.data.size = s.size := rfl

set_option maxHeartbeats 2000000 in
theorem rcompare_any (a b : ByteArray) (w : World) (ha : a.size ≤ 100000) (hb : b.size ≤ 100000) :
    Calls Try.prog 57 #[.string a, .string b] w fun e w' => e = .returned (.int .i64 (cmp a b)) ∧ w = w' := by
  obtain ⟨r, hr⟩ : ∃ r, r = cmp a b := ⟨_, rfl⟩
  have HR : Hid ((if Op.bytesLess (padTo a b.size).toList (padTo b a.size).toList then (-1 : Int) else if (!Op.bytesLess (padTo a b.size).toList (padTo b a.size).toList && !((padTo a b.size).toList == (padTo b a.size).toList)) then 1 else 0) = r) := by rw [hr]; exact (cmp_pad a b).symm
  rw [← hr]
  clear hr
  go_enter Try.func57, Try.ntmps57
  go_wp2_with fail
  go_loop [0] (fun s => ∃ s' : ByteArray, s = .string s' ∧ Hid (s' = padTo a s'.size) ∧ a.size ≤ s'.size ∧ s'.size ≤ max a.size b.size) (fun s => b.size - (match s with | .string s' => s'.size | _ => 0))
  case atStart => exact ⟨a, rfl, (padTo_self a a.size (Nat.le_refl _)).symm, Nat.le_refl _, Nat.le_max_left _ _⟩
  case round =>
    obtain ⟨s, rfl, HS, hs1, hs2⟩ := hrel
    by_cases hlt : s.size < b.size
    · have HN : Hid (s ++ (⟨#[0]⟩ : ByteArray) = padTo a (s ++ (⟨#[0]⟩ : ByteArray)).size) := by
        have e : (s ++ (⟨#[0]⟩ : ByteArray)).size = s.size + 1 := by rw [ByteArray.size_append]; rfl
        rw [e]
        show s ++ _ = padTo a (s.size + 1)
        rw [← padTo_add a s.size hs1, ← (HS.out : s = padTo a s.size)]
      have e : (s ++ (⟨#[0]⟩ : ByteArray)).size = s.size + 1 := by rw [ByteArray.size_append]; rfl
      have HE := Lib.hid e
      clear e
      go_wp2_with fail
      exact ⟨⟨_, rfl, HN, by rw [HE.out]; omega, by rw [HE.out]; omega⟩, by simp [HE.out]; omega⟩
    · have hs3 : s = padTo a b.size := by
        rw [HS.out]
        by_cases h : a.size ≤ b.size
        · rw [show s.size = b.size by omega]
        · rw [show s.size = a.size by omega, padTo_self a _ (Nat.le_refl _), padTo_self a _ (by omega)]
      have HS3 := Lib.hid hs3
      clear hs3
      go_wp2_with fail
      go_loop [1] (fun t => ∃ t' : ByteArray, t = .string t' ∧ Hid (t' = padTo b t'.size) ∧ b.size ≤ t'.size ∧ t'.size ≤ max b.size s.size) (fun t => s.size - (match t with | .string t' => t'.size | _ => 0))
      case atStart => exact ⟨b, rfl, (padTo_self b b.size (Nat.le_refl _)).symm, Nat.le_refl _, Nat.le_max_left _ _⟩
      case round =>
        obtain ⟨t, rfl, HT, ht1, ht2⟩ := hrel
        by_cases hlt2 : t.size < s.size
        · have e : (t ++ (⟨#[0]⟩ : ByteArray)).size = t.size + 1 := by rw [ByteArray.size_append]; rfl
          have HN : Hid (t ++ (⟨#[0]⟩ : ByteArray) = padTo b (t ++ (⟨#[0]⟩ : ByteArray)).size) := by
            rw [e]
            show t ++ _ = padTo b (t.size + 1)
            rw [← padTo_add b t.size ht1, ← (HT.out : t = padTo b t.size)]
          have HE := Lib.hid e
          clear e
          go_wp2_with fail
          exact ⟨⟨_, rfl, HN, by rw [HE.out]; omega, by rw [HE.out]; omega⟩, by simp [HE.out]; omega⟩
        · have ht3 : t = padTo b a.size := by
            rw [HT.out]
            by_cases h : b.size ≤ a.size
            · have : s.size = a.size := by omega
              rw [show t.size = a.size by omega]
            · rw [show t.size = b.size by omega, padTo_self b _ (Nat.le_refl _), padTo_self b _ (by omega)]
          have HR2 : Hid ((if Op.bytesLess s.toList t.toList then (-1 : Int) else if (!Op.bytesLess s.toList t.toList && !(s.toList == t.toList)) then 1 else 0) = r) := by
            rw [HS3.out, ht3]; exact HR.out
          clear ht3
          by_cases h1 : Op.bytesLess s.toList t.toList = true
          · go_wp2_with fail
            go_ret
            exact ⟨ret_int (by rw [← HR2.out, if_pos h1]), rfl⟩
          · have h1 : Op.bytesLess s.toList t.toList = false := by simpa using h1
            by_cases h2 : (s.toList == t.toList) = true
            · go_wp2_with fail
              go_ret
              exact ⟨ret_int (by rw [← HR2.out, h1, h2]; rfl), rfl⟩
            · have h2 : (s.toList == t.toList) = false := by simpa using h2
              go_wp2_with fail
              go_ret
              exact ⟨ret_int (by rw [← HR2.out, h1, h2]; rfl), rfl⟩
end Go.Proofs.Ytkabmmpccfeffaa
