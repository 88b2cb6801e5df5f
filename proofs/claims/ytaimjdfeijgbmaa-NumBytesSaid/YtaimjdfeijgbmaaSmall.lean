/- The small functions of the laws, as plain functions: is a list of texts long; are two rows one; the reference's row. -/
import Derived.Test.YtaimjdfeijgbmaaRefTexts
import Derived.Test.YtaimjdfeijgbmaaPLawx6
namespace Go.Proofs.Ytaimjdfeijgbmaa
open Go.RowKit Go.Proofs.YtaimjdfeijgbmaaW.PrintWords Go.Proofs.YtaimjdfeijgbmaaW.PrintLast Go.Proofs.YtaimjdfeijgbmaaW.PrintMore

theorem wrap_nat (x : Int) (n : Nat) (h : x = n) (hn : n ≤ 9223372036854775807) : wrap64 x = n := by subst h; unfold wrap64; omega
theorem rdOf_at {α : Type} (d : α) (l : List α) (i : Nat) (s : α) (h : l[i]? = some s) : rdOf d l (i : Int) = s := by
  simp [rdOf, List.getD_eq_getElem?_getD, h]
theorem drop_at {α : Type} (l : List α) (i : Nat) (s : α) (h : l[i]? = some s) : l.drop i = s :: l.drop (i + 1) := by
  obtain ⟨hl, e⟩ := List.getElem?_eq_some_iff.1 h
  rw [← e]; exact List.drop_eq_getElem_cons hl
theorem toList_inj (s t : ByteArray) : s.toList = t.toList ↔ s = t := by
  rw [ByteArray.toList_eq, ByteArray.toList_eq]
  exact ⟨fun h => ByteArray.ext (Array.toList_inj.1 h), fun h => by rw [h]⟩
def sumU (l : List ByteArray) : Nat := (l.map fun s => s.size + 1).sum
theorem sumU_take (l : List ByteArray) (i : Nat) (s : ByteArray) (h : l[i]? = some s) : sumU (l.take (i + 1)) = sumU (l.take i) + (s.size + 1) := by
  have : l.take (i + 1) = l.take i ++ [s] := by rw [List.take_add_one, h]; rfl
  rw [this]; simp [sumU]
theorem sumU_split (l : List ByteArray) (i : Nat) : sumU l = sumU (l.take i) + sumU (l.drop i) := by
  unfold sumU
  rw [← List.sum_append, ← List.map_append, List.take_append_drop]
theorem sumU_count : ∀ l : List ByteArray, l.length ≤ sumU l
  | [] => Nat.zero_le _
  | s :: l => by
    have := sumU_count l
    simp only [sumU, List.map_cons, List.sum_cons, List.length_cons] at *
    omega
theorem sumU_mem (l : List ByteArray) (s : ByteArray) (h : s ∈ l) : s.size + 1 ≤ sumU l := by
  induction l with
  | nil => cases h
  | cons t l ih =>
    simp only [sumU, List.map_cons, List.sum_cons] at *
    rcases List.mem_cons.1 h with rfl | h
    · omega
    · have := ih h; omega
theorem long_pure (l : List ByteArray) (hl : l.length ≤ 140737488351232) (hs : ∀ s ∈ l, s.size ≤ 140737488351232) (d : Nat) : ∀ (i k : Nat), i + d = l.length → d < k → sumU (l.take i) ≤ 5000 →
    PNum.hibernaclelaw01_long.l0 k (sumU (l.take i) : Nat) l (l.length : Int) i = some (decide (5000 < sumU l)) := by
  induction d with
  | zero =>
    intro i k hi hk hu
    obtain ⟨k, rfl⟩ : ∃ m, k = m + 1 := ⟨k - 1, by omega⟩
    rw [PNum.hibernaclelaw01_long.l0, if_neg (by omega)]
    rw [List.take_of_length_le (by omega)] at hu
    rw [decide_eq_false (by omega)]
  | succ d ih =>
    intro i k hi hk hu
    obtain ⟨k, rfl⟩ : ∃ m, k = m + 1 := ⟨k - 1, by omega⟩
    have hlt : i < l.length := by omega
    have hsi : l[i]? = some l[i] := List.getElem?_eq_getElem hlt
    have hz := hs _ (List.getElem_mem hlt)
    have hn := sumU_take l i _ hsi
    have hsp := sumU_split l (i + 1)
    generalize l[i] = s at *
    have w1 : wrap64 ((s.size : Int) + 1) = ((s.size + 1 : Nat) : Int) := wrap_nat _ _ rfl (by omega)
    have w2 : wrap64 (((sumU (l.take i) : Nat) : Int) + ((s.size + 1 : Nat) : Int)) = ((sumU (l.take (i + 1)) : Nat) : Int) := wrap_nat _ _ (by clear w1; omega) (by clear w1; omega)
    have w3 : wrap64 ((i : Int) + 1) = ((i + 1 : Nat) : Int) := wrap_nat _ _ rfl (by clear w1 w2; omega)
    rw [PNum.hibernaclelaw01_long.l0, if_pos (by clear w1 w2 w3; omega), if_pos (by clear w1 w2 w3; omega), if_pos (by clear w1 w2 w3; omega), rdOf_at _ _ _ _ hsi, w1, w2, w3]
    clear w1 w2 w3
    by_cases h : 5000 < sumU (l.take (i + 1))
    · rw [if_pos (by omega), decide_eq_true (by omega)]
    · rw [if_neg (by omega)]
      exact ih (i + 1) k (by omega) (by omega) (by omega)
theorem long_f (l : List ByteArray) (hl : l.length ≤ 140737488351232) (hs : ∀ s ∈ l, s.size ≤ 140737488351232) (k : Nat) (hk : l.length < k) : PNum.hibernaclelaw01_long.f k l = some (decide (5000 < sumU l)) := by
  have h := long_pure l hl hs l.length 0 k (by omega) hk (by simp [sumU])
  simp only [List.take_zero] at h
  exact h
theorem same_pure (l l' : List ByteArray) (hl : l.length ≤ 140737488351232) (he : l.length = l'.length) (d : Nat) : ∀ (i k : Nat), i + d = l.length → d < k →
    PNum.hibernacleref01_Same.l0 k l l' (l.length : Int) i = some (decide (l.drop i = l'.drop i)) := by
  induction d with
  | zero =>
    intro i k hi hk
    obtain ⟨k, rfl⟩ : ∃ m, k = m + 1 := ⟨k - 1, by omega⟩
    rw [PNum.hibernacleref01_Same.l0, if_neg (by omega), List.drop_of_length_le (by omega), List.drop_of_length_le (by omega)]
    simp
  | succ d ih =>
    intro i k hi hk
    obtain ⟨k, rfl⟩ : ∃ m, k = m + 1 := ⟨k - 1, by omega⟩
    have hlt : i < l.length := by omega
    have hsi : l[i]? = some l[i] := List.getElem?_eq_getElem hlt
    have hsi' : l'[i]? = some (l'[i]'(by omega)) := List.getElem?_eq_getElem (by omega)
    generalize l[i] = s at *
    generalize l'[i]'(by omega) = s' at *
    have w3 : wrap64 ((i : Int) + 1) = ((i + 1 : Nat) : Int) := wrap_nat _ _ rfl (by omega)
    rw [PNum.hibernacleref01_Same.l0, if_pos (by omega), if_pos (by omega), if_pos (by omega), if_pos (by omega), rdOf_at _ _ _ _ hsi, rdOf_at _ _ _ _ hsi', w3, drop_at _ _ _ hsi, drop_at _ _ _ hsi']
    by_cases h : s = s'
    · rw [if_pos ((toList_inj _ _).2 h), ih (i + 1) k (by omega) (by omega), h]
      simp
    · rw [if_neg (fun e => h ((toList_inj _ _).1 e)), decide_eq_false (fun e => h (List.cons.inj e).1)]
theorem same_f (l l' : List ByteArray) (hl : l.length ≤ 140737488351232) (k : Nat) (hk : l.length < k) : PNum.hibernacleref01_Same.f k l l' = some (decide (l = l')) := by
  unfold PNum.hibernacleref01_Same.f
  by_cases h : l.length = l'.length
  · rw [if_pos (by omega)]
    have := same_pure l l' hl h l.length 0 k (by omega) hk
    rw [List.drop_zero, List.drop_zero] at this
    exact this
  · rw [if_neg (by omega), decide_eq_false (fun e => h (by rw [e]))]
theorem nums_one (n : Int) (m : Nat) (h : n = m) (hm : m < 256) : strOfNums [n % 256] = ⟨[UInt8.ofNat m].toArray⟩ := by
  subst h
  have : ((m : Int) % 256).toNat = m := by omega
  simp only [strOfNums, List.map_cons, List.map_nil, this]
theorem bytes_app (l m : List UInt8) : (⟨l.toArray⟩ : ByteArray) ++ ⟨m.toArray⟩ = ⟨(l ++ m).toArray⟩ := by
  apply ByteArray.ext
  simp [ByteArray.data_append]
theorem bytes_size (l : List UInt8) : (⟨l.toArray⟩ : ByteArray).size = l.length := by simp [ByteArray.size]
theorem ref_length (d : Nat) : ∀ (n k : Nat), n < 128 ^ (d + 1) → d ≤ 8 → d < k → n ≤ 9223372036854775807 → PNum.hibernacleref01_length.f k n = some ⟨(lenU n).toArray⟩ := by
  induction d with
  | zero =>
    intro n k hn _ hk _
    obtain ⟨k, rfl⟩ : ∃ m, k = m + 1 := ⟨k - 1, by omega⟩
    have hn : n < 128 := by simpa using hn
    rw [PNum.hibernacleref01_length.f, if_pos (by omega), nums_one _ n rfl (by omega), lenU, if_pos hn]
  | succ d ih =>
    intro n k hn hd hk hm
    obtain ⟨k, rfl⟩ : ∃ m, k = m + 1 := ⟨k - 1, by omega⟩
    by_cases h : n < 128
    · rw [PNum.hibernacleref01_length.f, if_pos (by omega), nums_one _ n rfl (by omega), lenU, if_pos h]
    · have hdv : n / 128 < 128 ^ (d + 1) := by
        rw [Nat.pow_succ] at hn
        exact Nat.div_lt_of_lt_mul (by rw [Nat.mul_comm]; exact hn)
      have e1 : wrap64 (Int.tmod (n : Int) 128 + 128) = ((n % 128 + 128 : Nat) : Int) := by rw [Int.tmod_eq_emod_of_nonneg (by omega)]; unfold wrap64; omega
      have e2 : wrap64 (Int.tdiv (n : Int) 128) = ((n / 128 : Nat) : Int) := by rw [Int.tdiv_eq_ediv_of_nonneg (by omega)]; unfold wrap64; omega
      have hlen := lenU_len d (n / 128) hdv
      rw [PNum.hibernacleref01_length.f, if_neg (by omega), e1, e2]
      clear hn e1 e2
      have e3 := ih (n / 128) k hdv (by omega) (by omega) (by omega)
      simp only [Option.bind_some]
      rw [e3]
      simp only [Option.bind_some]
      rw [nums_one _ (n % 128 + 128) rfl (by omega), bytes_size, bytes_size, if_pos (by rw [List.length_singleton]; clear hdv; omega), bytes_app, lenU.eq_1 n, if_neg h]
      rfl
theorem ref_row (l : List ByteArray) (hl : l.length ≤ 140737488351232) (hr : (rowU l).length ≤ 140737488351232) (d : Nat) : ∀ (i k : Nat), i + d = l.length → d + 10 < k →
    PNum.hibernacleref01_Row.l0 k ⟨(rowU (l.take i)).toArray⟩ l (l.length : Int) i = some ⟨(rowU l).toArray⟩ := by
  induction d with
  | zero =>
    intro i k hi hk
    obtain ⟨k, rfl⟩ : ∃ m, k = m + 1 := ⟨k - 1, by omega⟩
    rw [PNum.hibernacleref01_Row.l0, if_neg (by omega), List.take_of_length_le (by omega)]
  | succ d ih =>
    intro i k hi hk
    obtain ⟨k, rfl⟩ : ∃ m, k = m + 1 := ⟨k - 1, by omega⟩
    have hlt : i < l.length := by omega
    have hsi : l[i]? = some l[i] := List.getElem?_eq_getElem hlt
    have hn := rowU_take l i _ hsi
    have hmo := rowU_mono l (i + 1)
    generalize l[i] = s at *
    have hsz : s.data.toList.length = s.size := by simp
    have hs2 : s.size ≤ 140737488351232 := by rw [hn, List.length_append, hsz] at hmo; omega
    have hmo2 : (rowU (l.take i)).length + ((lenU s.size).length + s.size) ≤ 140737488351232 := by
      rw [hn, List.length_append, List.length_append, hsz] at hmo; omega
    have w3 : wrap64 ((i : Int) + 1) = ((i + 1 : Nat) : Int) := wrap_nat _ _ rfl (by clear hmo hmo2 hn hs2 hsz; omega)
    have e1 : PNum.hibernacleref01_length.f k s.size = some ⟨(lenU s.size).toArray⟩ := ref_length 8 s.size k (Nat.lt_of_le_of_lt hs2 (by decide)) (by decide) (by clear hmo hmo2 hn hs2 hsz w3; omega) (Nat.le_trans hs2 (by decide))
    have e2 : (⟨(rowU (l.take i)).toArray⟩ : ByteArray) ++ (⟨(lenU s.size).toArray⟩ ++ s) = ⟨(rowU (l.take (i + 1))).toArray⟩ := by
      rw [hn]
      apply ByteArray.ext
      simp [ByteArray.data_append]
    rw [PNum.hibernacleref01_Row.l0, if_pos (by clear w3 hmo hmo2 hn hs2 e1 e2; omega), if_pos (by clear w3 hmo hmo2 hn hs2 e1 e2; omega), if_pos (by clear w3 hmo hmo2 hn hs2 e1 e2; omega), rdOf_at _ _ _ _ hsi, w3, e1]
    simp only [Option.bind_some]
    clear w3 e1
    rw [if_pos (by rw [bytes_size]; clear e2; omega), if_pos (by rw [ByteArray.size_append, bytes_size, bytes_size]; clear e2; omega), e2]
    clear hmo hmo2 hn hs2 e2
    exact ih (i + 1) k (by omega) (by omega)
theorem ref_row_f (l : List ByteArray) (hl : l.length ≤ 140737488351232) (hr : (rowU l).length ≤ 140737488351232) (k : Nat) (hk : l.length + 10 < k) : PNum.hibernacleref01_Row.f k l = some ⟨(rowU l).toArray⟩ := by
  have h := ref_row l hl hr l.length 0 k (by omega) hk
  rw [List.take_zero] at h
  exact h
theorem texts_f (s : ByteArray) (hs : s.size ≤ 8000000000000) (k : Nat) (hk : s.size + 14 ≤ k) : PNum.num_Texts.f k s = some ((tl (s.size + 1) s.data.toList []).1, (((tl (s.size + 1) s.data.toList []).2 : Nat) : Int)) :=
  texts_pure (s.size + 1) k s [] (by omega) (by omega) (by omega) (by simp; omega)
theorem ref_texts_f (s : ByteArray) (hs : s.size ≤ 8000000000000) (k : Nat) (hk : 7 * s.size + 14 ≤ k) : PNum.hibernacleref01_Texts.f k s = some ((tl (s.size + 1) s.data.toList []).1, (((tl (s.size + 1) s.data.toList []).2 : Nat) : Int)) := by
  have h := ref_texts s (by omega) (s.size + 1) k 0 [] (by omega) (by omega) (by omega) (by simp; omega)
  rw [List.drop_zero] at h
  exact h
theorem row_len (l : List ByteArray) (h : sumU l ≤ 5000) : (rowU l).length ≤ 2 * sumU l := by
  induction l with
  | nil => simp [rowU]
  | cons s l ih =>
    have e : rowU (s :: l) = lenU s.size ++ (s.data.toList ++ rowU l) := by simp [rowU]
    have hsz : s.data.toList.length = s.size := by simp
    simp only [sumU, List.map_cons, List.sum_cons] at h ih ⊢
    have := lenU_len 1 s.size (by simp; omega)
    have := ih (by omega)
    rw [e, List.length_append, List.length_append, hsz]
    omega
theorem row_f (l : List ByteArray) (h : (rowU l).length ≤ 140737488355328) : num_Row.f l = some ⟨(rowU l).toArray⟩ := by unfold num_Row.f; rw [if_pos h]
end Go.Proofs.Ytaimjdfeijgbmaa
