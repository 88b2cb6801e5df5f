/- The reference's Int is the program's. -/
import Derived.Test.YtaimjdfeijgbmaaDoorDecPure
namespace Go.Proofs.YtaimjdfeijgbmaaDoor
open Go.RowKit Go.Lib Go.Proofs.YtaimjdfeijgbmaaDoorW.PrintWords Go.Proofs.YtaimjdfeijgbmaaDoorW.PrintLast Go.Proofs.YtaimjdfeijgbmaaDoorW.PrintMore

theorem wrap_nat (x : Int) (n : Nat) (h : x = n) (hn : n ≤ 9223372036854775807) : wrap64 x = n := by subst h; unfold wrap64; omega
theorem toList_inj (s t : ByteArray) : s.toList = t.toList ↔ s = t := by
  rw [ByteArray.toList_eq, ByteArray.toList_eq]
  exact ⟨fun h => ByteArray.ext (Array.toList_inj.1 h), fun h => by rw [h]⟩
theorem drop_at {α : Type} (l : List α) (i : Nat) (s : α) (h : l[i]? = some s) : l.drop i = s :: l.drop (i + 1) := by
  obtain ⟨hl, e⟩ := List.getElem?_eq_some_iff.1 h
  rw [← e]; exact List.drop_eq_getElem_cons hl
theorem bt_at_list (s : ByteArray) (i : Nat) (c : UInt8) (h : s.data.toList[i]? = some c) : bt s (i : Int) = c.toNat := by
  obtain ⟨hl, e⟩ := List.getElem?_eq_some_iff.1 h
  have hl' : i < s.size := by simpa using hl
  unfold bt
  rw [dif_pos (by simpa using hl')]
  simp only [Int.toNat_natCast]
  rw [← e]
  rfl
theorem list_at (s : ByteArray) (i : Nat) (h : i < s.size) : ∃ c, s.data.toList[i]? = some c := ⟨_, List.getElem?_eq_getElem (by simpa using h)⟩
theorem byte_sub (c : UInt8) (h1 : 48 ≤ c.toNat) (h2 : c.toNat ≤ 57) : (((c.toNat : Int) - 48) % 256) = ((c.toNat - 48 : Nat) : Int) := by omega

/-- Where the text is no number's: no. -/
theorem int_no (s : ByteArray) (hs : s.size ≤ 20) (h0 : 0 < s.size) (hno : ∀ v, -9223372036854775808 ≤ v → v ≤ 9223372036854775807 → s ≠ dec v) (d : Nat) : ∀ (i k : Nat) (x : Int), i + d = s.size → 3 * d + 62 ≤ k → -9223372036854775808 ≤ x → x ≤ 9223372036854775807 →
    PNum.hibernacleref01_Int.l0 k s x i = some (0, false) := by
  obtain ⟨c0, hc0⟩ := list_at s 0 h0
  have hb0 := bt_at_list s 0 c0 hc0
  rw [show ((0 : Nat) : Int) = 0 from rfl] at hb0
  induction d with
  | zero =>
    intro i k x hi hk hx0 hx1
    obtain ⟨k, rfl⟩ : ∃ m, k = m + 1 := ⟨k - 1, by omega⟩
    rw [PNum.hibernacleref01_Int.l0, if_neg (by omega), ref_dec x hx0 hx1 k (by omega)]
    simp only [Option.bind_some]
    rw [if_neg (fun e => hno x hx0 hx1 ((toList_inj _ _).1 e).symm)]
  | succ d ih =>
    intro i k x hi hk hx0 hx1
    obtain ⟨k, rfl⟩ : ∃ m, k = m + 3 := ⟨k - 3, by omega⟩
    obtain ⟨c, hc⟩ := list_at s i (by omega)
    have hb := bt_at_list s i c hc
    have hw : wrap64 ((i : Int) + 1) = ((i + 1 : Nat) : Int) := wrap_nat _ _ rfl (by omega)
    have p1 : (i : Int) < s.size := by omega
    have p2 : (0 : Int) ≤ i := by omega
    have p3 : (0 : Int) < s.size := by omega
    have q1 : ((c.toNat : Int) = 45) ↔ c.toNat = 45 := by omega
    have q2 : ((c.toNat : Int) < 48) ↔ c.toNat < 48 := by omega
    have q3 : ((c.toNat : Int) > 57) ↔ 57 < c.toNat := by omega
    have q4 : i + 1 + d = s.size := by omega
    have q5 : 3 * d + 62 ≤ k := by omega
    have q6 : 3 * d + 62 ≤ k + 1 := by omega
    have q7 : ((i : Int) == 0) = true → PNum.hibernacleref01_Int.j2 (k + 2) s x i true = some (0, false) := fun _ => by
      rw [PNum.hibernacleref01_Int.j2, if_pos rfl, hw]
      exact ih (i + 1) (k + 1) x q4 q6 hx0 hx1
    have q8 : PNum.hibernacleref01_Int.j2 (k + 2) s x i false = some (0, false) := by
      rw [PNum.hibernacleref01_Int.j2, if_neg (by decide), if_pos p2, if_pos p1, hb]
      by_cases h48 : c.toNat < 48
      · rw [if_pos (q2.2 h48), PNum.hibernacleref01_Int.j3, if_pos rfl]
      · rw [if_neg (fun e => h48 (q2.1 e))]
        by_cases h57 : 57 < c.toNat
        · rw [decide_eq_true (q3.2 h57), PNum.hibernacleref01_Int.j3, if_pos rfl]
        · rw [decide_eq_false (fun e => h57 (q3.1 e)), PNum.hibernacleref01_Int.j3, if_neg (by decide), if_pos p3, hw, hb, byte_sub c (Nat.not_lt.1 h48) (Nat.not_lt.1 h57)]
          by_cases h45 : bt s 0 = 45
          · rw [if_pos h45, if_pos p2, if_pos p1]
            exact ih (i + 1) k _ q4 q5 (wrap_range _).1 (wrap_range _).2
          · rw [if_neg h45, if_pos p2, if_pos p1]
            exact ih (i + 1) k _ q4 q5 (wrap_range _).1 (wrap_range _).2
    rw [PNum.hibernacleref01_Int.l0, if_pos p1, if_pos p2, hb]
    by_cases h45 : c.toNat = 45
    · rw [if_pos (q1.2 h45)]
      cases hz : ((i : Int) == 0) with
      | true => exact q7 hz
      | false => exact q8
    · rw [if_neg (fun e => h45 (q1.1 e))]
      exact q8
/-- Digits behind each other, without a sign. -/
theorem int_pos (s : ByteArray) (hs : s.size ≤ 20) (h0 : 0 < s.size) (h45 : bt s 0 ≠ 45) (d : Nat) : ∀ (i k a : Nat), i + d = s.size → 3 * d + 62 ≤ k → Dig (s.data.toList.drop i) → dval a (s.data.toList.drop i) ≤ 9223372036854775807 →
    s = dec (dval a (s.data.toList.drop i) : Nat) → PNum.hibernacleref01_Int.l0 k s a i = some (((dval a (s.data.toList.drop i) : Nat) : Int), true) := by
  induction d with
  | zero =>
    intro i k a hi hk _ hx hs'
    obtain ⟨k, rfl⟩ : ∃ m, k = m + 1 := ⟨k - 1, by omega⟩
    have e : s.data.toList.drop i = [] := by rw [List.drop_eq_nil_iff]; simp; omega
    rw [e, dval_nil] at hx hs' ⊢
    rw [PNum.hibernacleref01_Int.l0, if_neg (by omega), ref_dec (a : Int) (by omega) (by omega) k (by omega)]
    simp only [Option.bind_some]
    rw [if_pos ((toList_inj _ _).2 hs'.symm)]
  | succ d ih =>
    intro i k a hi hk hD hx hs'
    obtain ⟨k, rfl⟩ : ∃ m, k = m + 3 := ⟨k - 3, by omega⟩
    obtain ⟨c, hc⟩ := list_at s i (by omega)
    have hb := bt_at_list s i c hc
    rw [drop_at _ _ _ hc] at hD hx hs' ⊢
    have hcd := hD c (by simp)
    rw [dval_cons] at hx hs' ⊢
    have hle := dval_le (s.data.toList.drop (i + 1)) (a * 10 + (c.toNat - 48))
    have hw : wrap64 ((i : Int) + 1) = ((i + 1 : Nat) : Int) := wrap_nat _ _ rfl (by omega)
    have z := ih (i + 1) k (a * 10 + (c.toNat - 48)) (by omega) (by omega) (fun x hx => hD x (by simp [hx])) hx hs'
    have hw2 : wrap64 ((a : Int) * 10) = (a : Int) * 10 := wrap_int _ (by clear hs' z ih hw hb hD; omega)
    have hw3 : wrap64 ((a : Int) * 10 + ((c.toNat - 48 : Nat) : Int)) = ((a * 10 + (c.toNat - 48) : Nat) : Int) := wrap_nat _ _ (by clear hs' z ih hw hw2 hb hD; omega) (by clear hs' z ih hw hw2 hb hD; omega)
    clear hx hle hs' hD ih
    have p1 : (i : Int) < s.size := by clear hw hw2 hw3 z hb; omega
    have p2 : (0 : Int) ≤ i := Int.natCast_nonneg _
    have p3 : (0 : Int) < s.size := by clear hw hw2 hw3 z hb; omega
    have p4 : ¬ ((c.toNat : Int) = 45) := by clear hw hw2 hw3 z hb; omega
    have p5 : ¬ ((c.toNat : Int) < 48) := by clear hw hw2 hw3 z hb; omega
    have p6 : ¬ ((c.toNat : Int) > 57) := by clear hw hw2 hw3 z hb; omega
    rw [PNum.hibernacleref01_Int.l0, if_pos p1, if_pos p2, hb, if_neg p4, PNum.hibernacleref01_Int.j2, if_neg (by decide), if_pos p2, if_pos p1, hb, if_neg p5, decide_eq_false p6, PNum.hibernacleref01_Int.j3, if_neg (by decide), if_pos p3, if_neg h45, if_pos p2, if_pos p1, hw, hb, byte_sub c hcd.1 hcd.2, hw2, hw3]
    exact z
/-- Digits behind a sign. -/
theorem int_neg (s : ByteArray) (hs : s.size ≤ 20) (h0 : 0 < s.size) (h45 : bt s 0 = 45) (d : Nat) : ∀ (i k a : Nat), i + d = s.size → 3 * d + 62 ≤ k → Dig (s.data.toList.drop i) → dval a (s.data.toList.drop i) ≤ 9223372036854775808 →
    s = dec (-(dval a (s.data.toList.drop i) : Nat)) → PNum.hibernacleref01_Int.l0 k s (-(a : Int)) i = some (-((dval a (s.data.toList.drop i) : Nat) : Int), true) := by
  induction d with
  | zero =>
    intro i k a hi hk _ hx hs'
    obtain ⟨k, rfl⟩ : ∃ m, k = m + 1 := ⟨k - 1, by omega⟩
    have e : s.data.toList.drop i = [] := by rw [List.drop_eq_nil_iff]; simp; omega
    rw [e, dval_nil] at hx hs' ⊢
    rw [PNum.hibernacleref01_Int.l0, if_neg (by omega), ref_dec (-(a : Int)) (by omega) (by omega) k (by omega)]
    simp only [Option.bind_some]
    rw [if_pos ((toList_inj _ _).2 hs'.symm)]
  | succ d ih =>
    intro i k a hi hk hD hx hs'
    obtain ⟨k, rfl⟩ : ∃ m, k = m + 3 := ⟨k - 3, by omega⟩
    obtain ⟨c, hc⟩ := list_at s i (by omega)
    have hb := bt_at_list s i c hc
    rw [drop_at _ _ _ hc] at hD hx hs' ⊢
    have hcd := hD c (by simp)
    rw [dval_cons] at hx hs' ⊢
    have hle := dval_le (s.data.toList.drop (i + 1)) (a * 10 + (c.toNat - 48))
    have hw : wrap64 ((i : Int) + 1) = ((i + 1 : Nat) : Int) := wrap_nat _ _ rfl (by omega)
    have z := ih (i + 1) k (a * 10 + (c.toNat - 48)) (by omega) (by omega) (fun x hx => hD x (by simp [hx])) hx hs'
    have hw2 : wrap64 (-(a : Int) * 10) = -(a : Int) * 10 := wrap_int _ (by clear hs' z ih hw hb hD; omega)
    have hw3 : wrap64 (-(a : Int) * 10 - ((c.toNat - 48 : Nat) : Int)) = -((a * 10 + (c.toNat - 48) : Nat) : Int) := (wrap_int _ (by clear hs' z ih hw hw2 hb hD; omega)).trans (by clear hs' z ih hw hw2 hb hD; omega)
    clear hx hle hs' hD ih
    have p1 : (i : Int) < s.size := by clear hw hw2 hw3 z hb h45; omega
    have p2 : (0 : Int) ≤ i := Int.natCast_nonneg _
    have p3 : (0 : Int) < s.size := by clear hw hw2 hw3 z hb h45; omega
    have p4 : ¬ ((c.toNat : Int) = 45) := by clear hw hw2 hw3 z hb h45; omega
    have p5 : ¬ ((c.toNat : Int) < 48) := by clear hw hw2 hw3 z hb h45; omega
    have p6 : ¬ ((c.toNat : Int) > 57) := by clear hw hw2 hw3 z hb h45; omega
    rw [PNum.hibernacleref01_Int.l0, if_pos p1, if_pos p2, hb, if_neg p4, PNum.hibernacleref01_Int.j2, if_neg (by decide), if_pos p2, if_pos p1, hb, if_neg p5, decide_eq_false p6, PNum.hibernacleref01_Int.j3, if_neg (by decide), if_pos p3, if_pos h45, if_pos p2, if_pos p1, hw, hb, byte_sub c hcd.1 hcd.2, hw2, hw3]
    exact z
theorem dec_size (v : Int) (h0 : -9223372036854775808 ≤ v) (h1 : v ≤ 9223372036854775807) : 0 < (dec v).size ∧ (dec v).size ≤ 20 := by
  have e : (dec v).size = (itoa v).length := bytes_size _
  rw [e]
  rcases itoa_parts v h0 h1 with ⟨hn, e, hb⟩ | ⟨hn, e, hb⟩
  · obtain ⟨d1, d2, d3, d4⟩ := dig_of v.natAbs hb
    rw [e, List.length_cons]; omega
  · obtain ⟨d1, d2, d3, d4⟩ := dig_of v.toNat (by omega)
    rw [e]; omega
theorem int_yes (v : Int) (h0 : -9223372036854775808 ≤ v) (h1 : v ≤ 9223372036854775807) (k : Nat) (hk : 130 ≤ k) : PNum.hibernacleref01_Int.l0 k (dec v) 0 0 = some (v, true) := by
  obtain ⟨z0, z1⟩ := dec_size v h0 h1
  have el : (dec v).data.toList = itoa v := rfl
  rcases itoa_parts v h0 h1 with ⟨hn, e, hb⟩ | ⟨hn, e, hb⟩
  · obtain ⟨u, rfl⟩ : ∃ u : Nat, v = -(u : Int) := ⟨v.natAbs, by omega⟩
    have e2 : (-(u : Int)).natAbs = u := by omega
    rw [e2] at e hb
    obtain ⟨d1, d2, d3, d4⟩ := dig_of u hb
    rw [e] at el
    have hc0 : (dec (-(u : Int))).data.toList[0]? = some 45 := by rw [el]; rfl
    have h45 : bt (dec (-(u : Int))) 0 = 45 := bt_at_list _ 0 45 hc0
    have hd : (dec (-(u : Int))).data.toList.drop 1 = decDigits u := by rw [el]; rfl
    obtain ⟨k, rfl⟩ : ∃ m, k = m + 2 := ⟨k - 2, by omega⟩
    have z := int_neg (dec (-(u : Int))) z1 z0 h45 ((dec (-(u : Int))).size - 1) 1 k 0 (by omega) (by omega) (by rw [hd]; exact d1) (by rw [hd, d2]; exact hb) (by rw [hd, d2])
    rw [hd, d2] at z
    have hw : wrap64 ((0 : Int) + 1) = ((1 : Nat) : Int) := wrap_nat _ _ (by decide) (by decide)
    rw [PNum.hibernacleref01_Int.l0, if_pos (by omega), if_pos (by decide), if_pos h45, PNum.hibernacleref01_Int.j2, if_pos (by decide), hw]
    exact z
  · obtain ⟨u, rfl⟩ := Int.eq_ofNat_of_zero_le hn
    rw [Int.toNat_natCast] at e hb
    obtain ⟨d1, d2, d3, d4⟩ := dig_of u (by omega)
    rw [e] at el
    obtain ⟨c, hc⟩ := list_at (dec (u : Int)) 0 z0
    have hcd : 48 ≤ c.toNat := by
      refine (d1 c ?_).1
      rw [← el]
      exact List.mem_of_getElem? hc
    have hb0 := bt_at_list _ 0 c hc
    have h45 : bt (dec (u : Int)) 0 ≠ 45 := by
      rw [show ((0 : Nat) : Int) = 0 from rfl] at hb0
      rw [hb0]; omega
    have z := int_pos (dec (u : Int)) z1 z0 h45 (dec (u : Int)).size 0 k 0 (by omega) (by omega) (by rw [List.drop_zero, el]; exact d1) (by rw [List.drop_zero, el, d2]; exact hb) (by rw [List.drop_zero, el, d2])
    rw [List.drop_zero, el, d2] at z
    exact z
theorem ref_int (s : ByteArray) (k : Nat) (hk : 140 ≤ k) : PNum.hibernacleref01_Int.f k s = some (int s) := by
  obtain ⟨k, rfl⟩ : ∃ m, k = m + 1 := ⟨k - 1, by omega⟩
  unfold PNum.hibernacleref01_Int.f
  rcases int_parts s with ⟨v, h0, h1, e, hi⟩ | ⟨hi, hno⟩
  · obtain ⟨z0, z1⟩ := dec_size v h0 h1
    rw [hi, e, if_neg (by omega), decide_eq_false (by omega), PNum.hibernacleref01_Int.j0, if_neg (by decide)]
    exact int_yes v h0 h1 k (by omega)
  · rw [hi]
    by_cases hz : (s.size : Int) = 0
    · rw [if_pos hz, PNum.hibernacleref01_Int.j0, if_pos rfl]
    · rw [if_neg hz]
      by_cases h20 : (s.size : Int) > 20
      · rw [decide_eq_true h20, PNum.hibernacleref01_Int.j0, if_pos rfl]
      · rw [decide_eq_false h20, PNum.hibernacleref01_Int.j0, if_neg (by decide)]
        exact int_no s (by omega) (by omega) hno s.size 0 k 0 (by omega) (by omega) (by omega) (by omega)
end Go.Proofs.YtaimjdfeijgbmaaDoor
