/- What the law NumNests computes is true. -/
import Derived.Test.YtaimjdfeijgbmaaPureRows
import Derived.Test.YtaimjdfeijgbmaaPLawx11
namespace Go.Proofs.Ytaimjdfeijgbmaa
open Go.RowKit Go.Proofs.YtaimjdfeijgbmaaW.PrintWords Go.Proofs.YtaimjdfeijgbmaaW.PrintLast Go.Proofs.YtaimjdfeijgbmaaW.PrintMore

def rowB (l : List ByteArray) : ByteArray := ⟨(rowU l).toArray⟩
theorem rowU_bound (B : Nat) (hB : B < 268435456) (l : List ByteArray) (h : ∀ s ∈ l, s.size ≤ B) : (rowU l).length ≤ l.length * (B + 4) := by
  induction l with
  | nil => simp [rowU]
  | cons s l ih =>
    have e : rowU (s :: l) = lenU s.size ++ (s.data.toList ++ rowU l) := by simp [rowU]
    have hsz : s.data.toList.length = s.size := by simp
    have h1 := h s (by simp)
    have h2 := lenU_len 3 s.size (by simp; omega)
    have h3 := ih (fun x hx => h x (by simp [hx]))
    rw [e, List.length_append, List.length_append, hsz, List.length_cons, Nat.add_mul, Nat.one_mul]
    omega
theorem rd_L2_at (a : List (List ByteArray)) (i : Nat) (r : List ByteArray) (h : a[i]? = some r) : PLaw.rd_L2 a (i : Int) = r := by
  simp [PLaw.rd_L2, List.getD_eq_getElem?_getD, h]
theorem nests_each (a : List (List ByteArray)) (ha : a.length ≤ 30) (hs : ∀ r ∈ a, sumU r ≤ 5000) (hb : ∀ r ∈ a, r.length ≤ 140737488351232) (d : Nat) : ∀ (i k : Nat), i + d = a.length → d + 20000 < k →
    PLaw.hibernaclelaw01_NumNests.l1 k a (a.map rowB) (a.length : Int) i = some true := by
  induction d with
  | zero =>
    intro i k hi hk
    obtain ⟨k, rfl⟩ : ∃ m, k = m + 1 := ⟨k - 1, by omega⟩
    rw [PLaw.hibernaclelaw01_NumNests.l1, if_neg (by omega)]
  | succ d ih =>
    intro i k hi hk
    obtain ⟨k, rfl⟩ : ∃ m, k = m + 1 := ⟨k - 1, by omega⟩
    have hlt : i < a.length := by omega
    have hsi : a[i]? = some a[i] := List.getElem?_eq_getElem hlt
    have h1 := hs _ (List.getElem_mem hlt)
    have h2 := hb _ (List.getElem_mem hlt)
    generalize a[i] = r at *
    have hr := row_len r h1
    have hm : (a.map rowB)[i]? = some (rowB r) := by rw [List.getElem?_map, hsi]; rfl
    have w3 : wrap64 ((i : Int) + 1) = ((i + 1 : Nat) : Int) := wrap_nat _ _ rfl (by omega)
    have e1 : PNum.num_Texts.f k (rowB r) = some (r, 0) := texts_row r (small_mem r h1) (by omega) k (by omega)
    have e2 := same_f r r h2 k (by have := sumU_count r; omega)
    rw [PLaw.hibernaclelaw01_NumNests.l1, w3]
    clear w3
    rw [if_pos (by omega), if_pos (by omega), if_pos (by rw [List.length_map]; omega), rdOf_at _ _ _ _ hm, e1, rd_L2_at a i r hsi]
    simp only [Option.bind_some, if_true]
    rw [if_pos (by omega), e2]
    simp only [Option.bind_some, decide_true, if_true]
    exact ih (i + 1) k (by omega) (by omega)
theorem nests_all (a : List (List ByteArray)) (ha : a.length ≤ 30) (hl : ∀ r ∈ a, r.length ≤ 140737488351232 ∧ ∀ s ∈ r, s.size ≤ 140737488351232) (K : Nat) (hK : ∀ r ∈ a, r.length < K) (d : Nat) : ∀ (i k : Nat), i + d = a.length → d + 400000 + K < k →
    (∀ r ∈ a.take i, sumU r ≤ 5000) → PLaw.hibernaclelaw01_NumNests.l0 k a ((a.take i).map rowB) a (a.length : Int) i = some true := by
  induction d with
  | zero =>
    intro i k hi hk hu
    obtain ⟨k, rfl⟩ : ∃ m, k = m + 2 := ⟨k - 2, by omega⟩
    rw [List.take_of_length_le (by omega)] at hu ⊢
    have hb : ∀ s ∈ a.map rowB, s.size ≤ 10000 := by
      intro s hs
      obtain ⟨r, hr, rfl⟩ := List.mem_map.1 hs
      have h1 := hu r hr
      have := row_len r h1
      show (⟨(rowU r).toArray⟩ : ByteArray).size ≤ 10000
      rw [bytes_size]; omega
    have hrl := rowU_bound 10000 (by decide) (a.map rowB) hb
    rw [List.length_map] at hrl
    have hrl2 : (rowU (a.map rowB)).length ≤ 300120 := by omega
    clear hrl
    have e1 : PNum.num_Texts.f (k + 1) ⟨(rowU (a.map rowB)).toArray⟩ = some (a.map rowB, 0) := texts_row (a.map rowB) (fun s hs => by have := hb s hs; omega) (by omega) (k + 1) (by omega)
    rw [PLaw.hibernaclelaw01_NumNests.l0, if_neg (by omega), row_f _ (by omega)]
    simp only [Option.bind_some]
    rw [e1]
    simp only [Option.bind_some, if_true, List.length_map, bne_self_eq_false]
    rw [PLaw.hibernaclelaw01_NumNests.j1, if_neg (by decide), List.length_map]
    exact nests_each a ha hu (fun r hr => (hl r hr).1) a.length 0 k (by omega) (by omega)
  | succ d ih =>
    intro i k hi hk hu
    obtain ⟨k, rfl⟩ : ∃ m, k = m + 1 := ⟨k - 1, by omega⟩
    have hlt : i < a.length := by omega
    have hsi : a[i]? = some a[i] := List.getElem?_eq_getElem hlt
    have h1 := hl _ (List.getElem_mem hlt)
    have h2 := hK _ (List.getElem_mem hlt)
    generalize a[i] = r at *
    have w3 : wrap64 ((i : Int) + 1) = ((i + 1 : Nat) : Int) := wrap_nat _ _ rfl (by omega)
    have e1 := long_f r h1.1 h1.2 k (by omega)
    have ht : a.take (i + 1) = a.take i ++ [r] := by rw [List.take_add_one, hsi]; rfl
    rw [PLaw.hibernaclelaw01_NumNests.l0, w3]
    clear w3
    rw [if_pos (by omega), if_pos (by omega), if_pos (by omega), rd_L2_at a i r hsi, e1]
    simp only [Option.bind_some]
    by_cases h : 5000 < sumU r
    · rw [if_pos (decide_eq_true h)]
    · have hr := row_len r (by omega)
      rw [if_neg (by rw [decide_eq_false h]; decide), row_f r (by omega)]
      simp only [Option.bind_some]
      rw [if_pos (by rw [List.length_map, List.length_take]; omega)]
      have z := ih (i + 1) k (by omega) (by omega) (by
        intro x hx
        rw [ht] at hx
        rcases List.mem_append.1 hx with hx | hx
        · exact hu x hx
        · obtain rfl := List.mem_singleton.1 hx
          omega)
      rw [ht, List.map_append] at z
      exact z
theorem each_less : ∀ a : List (List ByteArray), ∃ K, ∀ r ∈ a, r.length < K
  | [] => ⟨0, by simp⟩
  | r :: a => by
    obtain ⟨K, h⟩ := each_less a
    refine ⟨K + r.length + 1, fun x hx => ?_⟩
    rcases List.mem_cons.1 hx with rfl | hx
    · omega
    · have := h x hx; omega
theorem numNests_pure (a : List (List ByteArray)) (hl : ∀ r ∈ a, r.length ≤ 140737488351232 ∧ ∀ s ∈ r, s.size ≤ 140737488351232) : ∃ k, PLaw.hibernaclelaw01_NumNests.f k a = some true := by
  obtain ⟨K, hK⟩ := each_less a
  refine ⟨K + 500000, ?_⟩
  unfold PLaw.hibernaclelaw01_NumNests.f
  rw [alive_f _ (by omega)]
  simp only [Option.bind_some, if_true]
  by_cases h : (a.length : Int) > 30
  · rw [if_pos h]
  · rw [if_neg h]
    have z := nests_all a (by omega) hl K hK a.length 0 (K + 500000) (by omega) (by omega) (by simp)
    exact z
end Go.Proofs.Ytaimjdfeijgbmaa
