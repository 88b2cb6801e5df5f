/- What bytes are turned into by a stream, as a plain function, and the laws that the statements ask of it. -/
import Derived.Test.YtgdjapcpgkflbaaPure
namespace Go.Proofs.Ytgdjapcpgkflbaa.Cc

/-- Byte i of the stream that begins with block n. -/
def sb (key nonce : List Nat) (n i : Nat) : Nat := g (block key nonce ((n + i / 64) % 4294967296)) (i % 64)
def xorS (f : Nat → Nat) (L : List Nat) : List Nat := (List.range L.length).map fun j => g L j ^^^ f j
/-- A row whose first i bytes are turned. -/
def xp (f : Nat → Nat) (A : List Nat) (i : Nat) : List Nat := (List.range A.length).map fun j => if j < i then g A j ^^^ f j else g A j

theorem sb_lt (key nonce : List Nat) (n i : Nat) : sb key nonce n i < 256 := g_lt_of_all (by decide) (block_lt _ _ _) _
theorem g_map_range (h : Nat → Nat) (n j : Nat) : g ((List.range n).map h) j = if j < n then h j else 0 := by
  unfold g
  simp only [List.getD_eq_getElem?_getD, List.getElem?_map]
  by_cases hj : j < n
  · rw [if_pos hj, List.getElem?_range hj]; rfl
  · rw [if_neg hj, List.getElem?_eq_none (by simpa using hj)]; rfl
theorem list_g (L : List Nat) : (List.range L.length).map (g L) = L := by
  apply List.ext_getElem
  · simp
  · intro i h1 h2
    simp [g, List.getElem?_eq_getElem h2]
theorem xp_len (f : Nat → Nat) (A : List Nat) (i : Nat) : (xp f A i).length = A.length := by simp [xp]
theorem xp_zero (f : Nat → Nat) (A : List Nat) : xp f A 0 = A := by
  unfold xp
  simp only [Nat.not_lt_zero, if_false]
  exact list_g A
theorem xp_get (f : Nat → Nat) (A : List Nat) (i : Nat) (hi : i < A.length) : g (xp f A i) i = g A i := by
  unfold xp
  rw [g_map_range, if_pos hi, if_neg (by omega)]
theorem xp_set (f : Nat → Nat) (A : List Nat) (i : Nat) : (xp f A i).set i (g A i ^^^ f i) = xp f A (i + 1) := by
  apply List.ext_getElem
  · simp [xp]
  · intro j h1 h2
    simp only [xp, List.getElem_set, List.getElem_map, List.getElem_range]
    by_cases e : i = j
    · subst e; simp
    · simp only [e, if_false]
      by_cases h : j < i
      · rw [if_pos h, if_pos (by omega)]
      · rw [if_neg h, if_neg (by omega)]
theorem g_append (A B : List Nat) (j : Nat) (h : j < A.length) : g (A ++ B) j = g A j := by
  unfold g
  simp only [List.getD_eq_getElem?_getD]
  rw [List.getElem?_append_left h]
theorem xp_take (f : Nat → Nat) (L Z : List Nat) : (xp f (L ++ Z) L.length).take L.length = xorS f L := by
  apply List.ext_getElem
  · simp [xp, xorS]
  · intro j h1 h2
    have hj : j < L.length := by simpa [xorS] using h2
    simp only [List.getElem_take, xp, xorS, List.getElem_map, List.getElem_range]
    rw [if_pos hj, g_append _ _ _ hj]
theorem xorS_len (f : Nat → Nat) (L : List Nat) : (xorS f L).length = L.length := by simp [xorS]
theorem xorS_g (f : Nat → Nat) (L : List Nat) (j : Nat) (hj : j < L.length) : g (xorS f L) j = g L j ^^^ f j := by
  unfold xorS
  rw [g_map_range, if_pos hj]
theorem xorS_lt {f : Nat → Nat} {L : List Nat} (hf : ∀ i, f i < 256) (hL : ∀ x ∈ L, x < 256) : ∀ x ∈ xorS f L, x < 256 := by
  intro x hx
  simp only [xorS, List.mem_map, List.mem_range] at hx
  obtain ⟨j, _, rfl⟩ := hx
  exact Nat.xor_lt_two_pow (n := 8) (g_lt_of_all (by decide) hL j) (hf j)
/-- Turned twice. -/
theorem xorS_back (f : Nat → Nat) (L : List Nat) : xorS f (xorS f L) = L := by
  apply List.ext_getElem
  · simp [xorS]
  · intro j h1 h2
    have hj : j < L.length := h2
    have := xorS_g f L j hj
    simp only [xorS, List.getElem_map, List.getElem_range, List.length_map, List.length_range] at this ⊢
    rw [this, Nat.xor_assoc, Nat.xor_self, Nat.xor_zero]
    simp [g, List.getElem?_eq_getElem hj]
theorem sb_block {key nonce : List Nat} {n i : Nat} {K : List Nat} (hK : K = block key nonce ((n + i / 64) % 4294967296)) : g K (i % 64) = sb key nonce n i := by rw [hK]; rfl
/-- The block's number goes on. -/
theorem next_n {n m i : Nat} (hm : m = (n + i / 64) % 4294967296) (hi : i % 64 = 0) : (m + 1) % 4294967296 = (n + (i + 1 + 63) / 64) % 4294967296 := by omega
theorem same_n {n i : Nat} (hi : i % 64 ≠ 0) : (n + (i + 63) / 64) % 4294967296 = (n + (i + 1 + 63) / 64) % 4294967296 := by omega
end Go.Proofs.Ytgdjapcpgkflbaa.Cc
