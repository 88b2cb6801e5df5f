/- What the laws NumRows and NumTexts compute is true. -/
import Derived.Test.YtaimjdfeijgbmaaAlive
import Derived.Test.YtaimjdfeijgbmaaPLawx7
import Derived.Test.YtaimjdfeijgbmaaPLawx8
namespace Go.Proofs.Ytaimjdfeijgbmaa
open Go.RowKit Go.Proofs.YtaimjdfeijgbmaaW.PrintWords Go.Proofs.YtaimjdfeijgbmaaW.PrintLast Go.Proofs.YtaimjdfeijgbmaaW.PrintMore

theorem tl_whole (l : List ByteArray) (hs : ∀ s ∈ l, s.size < 268435456) (k : Nat) (hk : l.length < k) : tl k (rowU l) [] = (l, 0) := by
  have h := tl_row l k [] [] hk hs
  rw [List.append_nil, List.nil_append] at h
  rw [h]
  obtain ⟨m, e⟩ : ∃ m, k - l.length = m + 1 := ⟨k - l.length - 1, by omega⟩
  rw [e, tl]
theorem texts_row (l : List ByteArray) (hs : ∀ s ∈ l, s.size < 268435456) (hl : (rowU l).length ≤ 8000000000000) (k : Nat) (hk : (rowU l).length + 14 ≤ k) : PNum.num_Texts.f k ⟨(rowU l).toArray⟩ = some (l, 0) := by
  have hc := rowU_count l
  rw [texts_f _ (by rw [bytes_size]; exact hl) k (by rw [bytes_size]; exact hk), bytes_size]
  have e : (⟨(rowU l).toArray⟩ : ByteArray).data.toList = rowU l := rfl
  rw [e, tl_whole l hs _ (by omega)]
  rfl
theorem tl_count : ∀ (k : Nat) (L : List UInt8) (acc : List ByteArray), (tl k L acc).1.length ≤ acc.length + k
  | 0, _, _ => by simp [tl]
  | _ + 1, [], acc => by simp [tl]
  | k + 1, c :: t, acc => by
    rw [tl]
    by_cases h1 : (rl (c :: t) 0 0).2.2 ≠ 0
    · rw [if_pos h1]; simp
    rw [if_neg h1]
    by_cases h2 : (c :: t).length - (rl (c :: t) 0 0).2.1 < (rl (c :: t) 0 0).1
    · rw [if_pos h2]; simp
    rw [if_neg h2]
    refine Nat.le_trans (tl_count k _ _) ?_
    simp; omega
theorem small_mem (l : List ByteArray) (h : sumU l ≤ 5000) : ∀ s ∈ l, s.size < 268435456 := fun s hs => by
  have := sumU_mem l s hs
  omega
theorem numRows_pure (l : List ByteArray) (hl : l.length ≤ 140737488351232) (hs : ∀ s ∈ l, s.size ≤ 140737488351232) : ∃ k, PLaw.hibernaclelaw01_NumRows.f k l = some true := by
  refine ⟨l.length + 20000, ?_⟩
  unfold PLaw.hibernaclelaw01_NumRows.f
  rw [alive_f _ (by omega)]
  simp only [Option.bind_some, if_true]
  rw [long_f l hl hs _ (by omega)]
  simp only [Option.bind_some]
  by_cases h : 5000 < sumU l
  · rw [if_pos (decide_eq_true h)]
  · have h' : sumU l ≤ 5000 := by omega
    have hr := row_len l h'
    rw [if_neg (by rw [decide_eq_false h]; decide), row_f l (by omega)]
    simp only [Option.bind_some]
    rw [texts_row l (small_mem l h') (by omega) _ (by omega), ref_row_f l hl (by omega) _ (by omega)]
    simp only [Option.bind_some, if_true]
    rw [same_f l l hl _ (by omega)]
    simp
theorem numTexts_pure : PLaw.hibernaclelaw01_NumTexts.Pure := by
  intro s _
  refine ⟨50000, ?_⟩
  unfold PLaw.hibernaclelaw01_NumTexts.f
  rw [alive_f _ (by omega)]
  simp only [Option.bind_some, if_true]
  by_cases h : (s.size : Int) > 5000
  · rw [if_pos h]
  · rw [if_neg h, texts_f s (by omega) _ (by omega), ref_texts_f s (by omega) _ (by omega)]
    have hc := tl_count (s.size + 1) s.data.toList []
    have hb := tl_back (s.size + 1) s.data.toList [] (tl (s.size + 1) s.data.toList []).1 (by simp)
    obtain ⟨T, hT⟩ : ∃ T, T = tl (s.size + 1) s.data.toList [] := ⟨_, rfl⟩
    rw [← hT] at hb hc ⊢
    clear hT
    obtain ⟨r, e⟩ := T
    simp only [Option.bind_some, if_true] at *
    rw [same_f r r (by simp at hc; omega) _ (by simp at hc; omega)]
    simp only [Option.bind_some, decide_true, if_true]
    by_cases he : (e : Int) = 0
    · have he' : e = 0 := by omega
      subst he'
      have hb := hb rfl
      have hb2 : rowU r = s.data.toList := by rw [hb]; simp [rowU]
      rw [if_pos he, row_f r (by rw [hb2]; simp; omega), hb2]
      simp
    · rw [if_neg he]
end Go.Proofs.Ytaimjdfeijgbmaa
