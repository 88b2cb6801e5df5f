/- What the law NumApart computes is true. -/
import Derived.Test.YtaimjdfeijgbmaaPureRows
import Derived.Test.YtaimjdfeijgbmaaPLawx10
namespace Go.Proofs.Ytaimjdfeijgbmaa
open Go.RowKit Go.Proofs.YtaimjdfeijgbmaaW.PrintWords Go.Proofs.YtaimjdfeijgbmaaW.PrintLast Go.Proofs.YtaimjdfeijgbmaaW.PrintMore

theorem rl_cut (d : Nat) : ∀ (m n i j : Nat), m < 128 ^ (d + 1) → i + d ≤ 3 → (0 < i → 0 < m) → j < (lenU m).length → rl ((lenU m).take j) n i = (0, 0, 4) := by
  induction d with
  | zero =>
    intro m n i j hm hi h0 hj
    have hm' : m < 128 := by simpa using hm
    rw [lenU, if_pos hm'] at hj
    obtain rfl : j = 0 := by simp at hj; omega
    rw [List.take_zero, rl]
  | succ d ih =>
    intro m n i j hm hi h0 hj
    rcases j with _ | j
    · rw [List.take_zero, rl]
    · by_cases hm' : m < 128
      · rw [lenU, if_pos hm'] at hj
        simp at hj
      · have e : (UInt8.ofNat (m % 128 + 128)).toNat = m % 128 + 128 := by simp; omega
        have hdv : m / 128 < 128 ^ (d + 1) := by
          rw [Nat.pow_succ] at hm
          exact Nat.div_lt_of_lt_mul (by rw [Nat.mul_comm]; exact hm)
        rw [lenU, if_neg hm', List.length_cons] at hj
        rw [lenU, if_neg hm', List.take_succ_cons, rl_on _ _ _ _ (by rw [e]; omega) (by rw [e]; omega)]
        exact ih (m / 128) _ (i + 1) j hdv (by omega) (by omega) (by omega)
theorem rowU_cons (s : ByteArray) (l : List ByteArray) : rowU (s :: l) = lenU s.size ++ (s.data.toList ++ rowU l) := by simp [rowU]
theorem rowU_append (l m : List ByteArray) : rowU (l ++ m) = rowU l ++ rowU m := by simp [rowU]
theorem tl_cut (l : List ByteArray) (hs : ∀ s ∈ l, s.size < 268435456) : ∀ (m k : Nat) (acc : List ByteArray), m < (rowU l).length → m < k →
    tl k ((rowU l).take m) acc = ([], 4) ∨ ∃ j, j < l.length ∧ tl k ((rowU l).take m) acc = (acc ++ l.take j, 0) := by
  induction l with
  | nil => intro m k acc hm; simp [rowU] at hm
  | cons s l ih =>
    intro m k acc hm hk
    obtain ⟨k, rfl⟩ : ∃ q, k = q + 1 := ⟨k - 1, by omega⟩
    have hsz := hs s (by simp)
    have hdl : s.data.toList.length = s.size := by simp
    have hlp := lenU_pos s.size
    rcases Nat.eq_zero_or_pos m with rfl | hm0
    · refine .inr ⟨0, by simp, ?_⟩
      rw [List.take_zero, tl]; simp
    cases hL : (rowU (s :: l)).take m with
    | nil =>
      have := congrArg List.length hL
      rw [List.length_take, List.length_nil] at this
      omega
    | cons c t =>
      rw [tl, ← hL]
      rw [rowU_cons] at hm ⊢
      rw [List.length_append, List.length_append, hdl] at hm
      by_cases h1 : m < (lenU s.size).length
      · have e1 : (lenU s.size ++ (s.data.toList ++ rowU l)).take m = (lenU s.size).take m := by rw [List.take_append_of_le_length (by omega)]
        rw [e1, rl_cut 3 s.size 0 0 m (by simpa using hsz) (by omega) (by omega) h1]
        exact .inl (by rw [if_pos (by decide)])
      · have e1 : (lenU s.size ++ (s.data.toList ++ rowU l)).take m = lenU s.size ++ (s.data.toList ++ rowU l).take (m - (lenU s.size).length) := by
          rw [List.take_append, List.take_of_length_le (by omega)]
        have hr := rl_lenU 3 s.size 0 0 ((s.data.toList ++ rowU l).take (m - (lenU s.size).length)) (by simpa using hsz) (by omega) (by omega)
        simp only [Nat.pow_zero, Nat.mul_one, Nat.zero_add] at hr
        rw [e1, hr]
        simp only []
        rw [if_neg (by decide)]
        have hlen : ((s.data.toList ++ rowU l).take (m - (lenU s.size).length)).length = m - (lenU s.size).length := by
          rw [List.length_take, List.length_append, hdl]; omega
        rw [List.length_append, hlen]
        by_cases h2 : m < (lenU s.size).length + s.size
        · rw [if_pos (by omega)]
          exact .inl rfl
        · rw [if_neg (by omega)]
          have e2 : (s.data.toList ++ rowU l).take (m - (lenU s.size).length) = s.data.toList ++ (rowU l).take (m - (lenU s.size).length - s.size) := by
            rw [List.take_append, List.take_of_length_le (by omega), hdl]
          have e3 : (lenU s.size ++ (s.data.toList ++ (rowU l).take (m - (lenU s.size).length - s.size))).drop ((lenU s.size).length) = s.data.toList ++ (rowU l).take (m - (lenU s.size).length - s.size) := List.drop_left
          have e4 : (lenU s.size ++ (s.data.toList ++ (rowU l).take (m - (lenU s.size).length - s.size))).drop ((lenU s.size).length + s.size) = (rowU l).take (m - (lenU s.size).length - s.size) := by
            rw [← List.drop_drop, e3, ← hdl, List.drop_left]
          have e5 : (s.data.toList ++ (rowU l).take (m - (lenU s.size).length - s.size)).take s.size = s.data.toList := by rw [← hdl, List.take_left]
          rw [e2, e4, e3, e5]
          rcases ih (fun x hx => hs x (by simp [hx])) (m - (lenU s.size).length - s.size) k (acc ++ [⟨s.data.toList.toArray⟩]) (by omega) (by omega) with h | ⟨j, hj, h⟩
          · exact .inl h
          · refine .inr ⟨j + 1, by simp; omega, ?_⟩
            rw [h]; simp
theorem rowU_inj (l m : List ByteArray) (hl : ∀ s ∈ l, s.size < 268435456) (hm : ∀ s ∈ m, s.size < 268435456) (h : rowU l = rowU m) : l = m := by
  have h1 := tl_whole l hl (l.length + m.length + 1) (by omega)
  have h2 := tl_whole m hm (l.length + m.length + 1) (by omega)
  rw [h] at h1
  exact congrArg Prod.fst (h1.symm.trans h2)
theorem rowB_inj (l m : List ByteArray) (hl : ∀ s ∈ l, s.size < 268435456) (hm : ∀ s ∈ m, s.size < 268435456) : ((⟨(rowU l).toArray⟩ : ByteArray).toList == (⟨(rowU m).toArray⟩ : ByteArray).toList) = decide (l = m) := by
  have e : (⟨(rowU l).toArray⟩ : ByteArray).toList = (⟨(rowU m).toArray⟩ : ByteArray).toList ↔ l = m := by
    rw [ByteArray.toList_eq, ByteArray.toList_eq]
    exact ⟨fun h => rowU_inj l m hl hm h, fun h => by rw [h]⟩
  by_cases h : l = m
  · rw [decide_eq_true h, beq_iff_eq]; exact e.2 h
  · rw [decide_eq_false h, beq_eq_false_iff_ne]; exact fun h' => h (e.1 h')
theorem apart_cut (l : List ByteArray) (h : sumU l ≤ 5000) (c : Int) (hc0 : 0 ≤ c) (hc : c ≤ 65535) (k : Nat) (hk : 20000 ≤ k) : PLaw.hibernaclelaw01_NumApart.j1 k l c ⟨(rowU l).toArray⟩ false = some true := by
  obtain ⟨k, rfl⟩ : ∃ m, k = m + 1 := ⟨k - 1, by omega⟩
  have hr := row_len l h
  have hn := rowU_count l
  rw [PLaw.hibernaclelaw01_NumApart.j1, if_neg (by decide), bytes_size]
  by_cases h0 : (rowU l).length = 0
  · rw [if_pos (by omega)]
    have : l.length = 0 := by omega
    rw [this]; rfl
  · rw [if_neg (by omega)]
    obtain ⟨m, rfl⟩ := Int.eq_ofNat_of_zero_le hc0
    have e1 : wrap64 (m : Int) = m := wrap_nat _ _ rfl (by omega)
    have e2 : Int.tmod (m : Int) ((rowU l).length : Int) = ((m % (rowU l).length : Nat) : Int) := by rw [Int.tmod_eq_emod_of_nonneg (by omega)]; rfl
    have hlt := Nat.mod_lt m (Nat.pos_of_ne_zero h0)
    rw [e1, e2]
    clear e1 e2
    generalize m % (rowU l).length = q at *
    rw [if_pos (by omega), if_pos (by omega), Int.toNat_natCast]
    have e3 : ((⟨(rowU l).toArray⟩ : ByteArray).extract 0 q).data.toList = (rowU l).take q := by rw [extract_list, List.drop_zero, Nat.sub_zero]
    have e4 : ((⟨(rowU l).toArray⟩ : ByteArray).extract 0 q).size = q := by rw [ByteArray.size_extract, bytes_size]; omega
    rw [texts_f _ (by omega) k (by omega), e3, e4]
    rcases tl_cut l (small_mem l h) q (q + 1) [] hlt (by omega) with e | ⟨j, hj, e⟩
    · rw [e]
      rfl
    · rw [e]
      simp only [Option.bind_some, List.nil_append]
      rw [if_neg (by decide), if_pos (by decide), decide_eq_true]
      rw [List.length_take]
      omega
theorem numApart_pure (l m : List ByteArray) (hl : l.length ≤ 140737488351232) (hs : ∀ s ∈ l, s.size ≤ 140737488351232) (hl2 : m.length ≤ 140737488351232) (hs2 : ∀ s ∈ m, s.size ≤ 140737488351232) (c : Int) (hc0 : 0 ≤ c) (hc : c ≤ 65535) :
    ∃ k, PLaw.hibernaclelaw01_NumApart.f k l m c = some true := by
  refine ⟨l.length + m.length + 50000, ?_⟩
  obtain ⟨k, hk⟩ : ∃ k, l.length + m.length + 50000 = k + 1 := ⟨l.length + m.length + 49999, rfl⟩
  rw [hk]
  unfold PLaw.hibernaclelaw01_NumApart.f
  rw [alive_f _ (by omega)]
  simp only [Option.bind_some, if_true]
  rw [long_f l hl hs _ (by omega)]
  simp only [Option.bind_some]
  by_cases h : 5000 < sumU l
  · rw [if_pos (decide_eq_true h), PLaw.hibernaclelaw01_NumApart.j0, if_pos rfl]
  · rw [if_neg (by rw [decide_eq_false h]; decide), long_f m hl2 hs2 _ (by omega)]
    simp only [Option.bind_some]
    by_cases h2 : 5000 < sumU m
    · rw [decide_eq_true h2, PLaw.hibernaclelaw01_NumApart.j0, if_pos rfl]
    · have h' : sumU l ≤ 5000 := by omega
      have h2' : sumU m ≤ 5000 := by omega
      have hr := row_len l h'
      have hr2 := row_len m h2'
      have hn := rowU_count l
      have hn2 := rowU_count m
      rw [decide_eq_false h2, PLaw.hibernaclelaw01_NumApart.j0, if_neg (by decide), row_f l (by omega), row_f m (by omega)]
      simp only [Option.bind_some, List.nil_append, List.length_nil]
      rw [if_pos (by omega), if_pos (by omega), same_f l m hl _ (by omega)]
      simp only [Option.bind_some]
      rw [rowB_inj l m (small_mem l h') (small_mem m h2'), if_neg (by simp), row_f (l ++ m) (by rw [rowU_append, List.length_append]; omega)]
      simp only [Option.bind_some]
      rw [bytes_size, bytes_size, if_pos (by omega), rowU_append, bytes_app]
      simp only [bne_self_eq_false]
      exact apart_cut l h' c hc0 hc k (by omega)
end Go.Proofs.Ytaimjdfeijgbmaa
