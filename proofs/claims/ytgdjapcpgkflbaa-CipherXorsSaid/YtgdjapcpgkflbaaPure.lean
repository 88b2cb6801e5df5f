/- The stream's block and what bytes are turned into, as plain functions on lists of numbers, and the laws on them that the statements ask. -/
namespace Go.Proofs.Ytgdjapcpgkflbaa.Cc

def add (a b : Nat) : Nat := (a + b) % 4294967296
def rot (x k : Nat) : Nat := (x * 2 ^ k) % 4294967296 + x / 2 ^ (32 - k)
def g (L : List Nat) (i : Nat) : Nat := L.getD i 0
def half (L : List Nat) (a b d k : Nat) : List Nat :=
  (L.set a (add (g L a) (g L b))).set d (rot (g L d ^^^ add (g L a) (g L b)) k)
def quart (L : List Nat) (a b c d j k : Nat) : List Nat := half (half L a b d j) c d b k
def step (L : List Nat) (a b c d : Nat) : List Nat := quart (quart L a b c d 16 12) a b c d 8 7
def cols (L : List Nat) : Nat → List Nat
  | 0 => L
  | i + 1 => step (cols L i) i (4 + i) (8 + i) (12 + i)
def diags (L : List Nat) : Nat → List Nat
  | 0 => L
  | i + 1 => step (diags L i) i (4 + (i + 1) % 4) (8 + (i + 2) % 4) (12 + (i + 3) % 4)
def rounds (L : List Nat) : Nat → List Nat
  | 0 => L
  | n + 1 => diags (cols (rounds L n) 4) 4
def word (s : List Nat) (i : Nat) : Nat := g s i + 256 * g s (i + 1) + 65536 * g s (i + 2) + 16777216 * g s (i + 3)
def consts : List Nat := [1634760805, 857760878, 2036477234, 1797285236]
/-- The words at the beginning: the first m words of the key, then, and so on. -/
def keyed (key : List Nat) (m : Nat) : List Nat := consts ++ (List.range m).map (fun i => word key (4 * i))
def begin_ (key nonce : List Nat) (n : Nat) : List Nat := keyed key 8 ++ n :: (List.range 3).map (fun i => word nonce (4 * i))
/-- A byte of a sum's words. -/
def outb (x w : List Nat) (j : Nat) : Nat := (add (g x (j / 4)) (g w (j / 4)) / 2 ^ (8 * (j % 4))) % 256
def block (key nonce : List Nat) (n : Nat) : List Nat := (List.range 64).map (outb (rounds (begin_ key nonce n) 10) (begin_ key nonce n))

/-- 16 words. -/
structure Ws (L : List Nat) : Prop where
  len : L.length = 16
  lt : ∀ i, g L i < 4294967296

theorem g_lt_of_all {L : List Nat} {n : Nat} (hn : 0 < n) (h : ∀ x ∈ L, x < n) (i : Nat) : g L i < n := by
  unfold g
  rw [List.getD_eq_getElem?_getD]
  by_cases hi : i < L.length
  · rw [List.getElem?_eq_getElem hi]; exact h _ (List.getElem_mem hi)
  · rw [List.getElem?_eq_none (by omega)]; exact hn

theorem g_set (L : List Nat) (i j v : Nat) : g (L.set i v) j = if i = j ∧ i < L.length then v else g L j := by
  unfold g
  simp only [List.getD_eq_getElem?_getD, List.getElem?_set]
  by_cases h : i = j
  · subst h
    by_cases hl : i < L.length
    · simp [hl]
    · simp [hl]
  · simp [h]

theorem add_lt (a b : Nat) : add a b < 4294967296 := Nat.mod_lt _ (by decide)

theorem div_lt_pow {x k : Nat} (hx : x < 4294967296) (hk : k ≤ 32) : x / 2 ^ (32 - k) < 2 ^ k := by
  rw [Nat.div_lt_iff_lt_mul (Nat.two_pow_pos _), ← Nat.pow_add, show k + (32 - k) = 32 from by omega]
  exact hx

theorem mul_mod_pow (x k : Nat) (hk : k ≤ 32) : (x * 2 ^ k) % 4294967296 = 2 ^ k * (x % 2 ^ (32 - k)) := by
  rw [show (4294967296 : Nat) = 2 ^ k * 2 ^ (32 - k) from by rw [← Nat.pow_add, show k + (32 - k) = 32 from by omega], Nat.mul_comm x, Nat.mul_mod_mul_left]

theorem rot_lt {x k : Nat} (hx : x < 4294967296) (hk : k ≤ 32) : rot x k < 4294967296 := by
  unfold rot
  rw [mul_mod_pow x k hk]
  have h1 := div_lt_pow hx hk
  have h2 : x % 2 ^ (32 - k) < 2 ^ (32 - k) := Nat.mod_lt _ (Nat.two_pow_pos _)
  have h3 : 2 ^ k * (x % 2 ^ (32 - k) + 1) ≤ 2 ^ k * 2 ^ (32 - k) := Nat.mul_le_mul_left _ h2
  rw [← Nat.pow_add, show k + (32 - k) = 32 from by omega, Nat.mul_add] at h3
  have h4 : (2 : Nat) ^ 32 = 4294967296 := by decide
  omega

/-- The rotation as Go's text has it: an 'or' of what doesn't meet. -/
theorem rot_or {x k : Nat} (hx : x < 4294967296) (hk : k ≤ 32) : ((x * 2 ^ k) % 4294967296) ||| (x / 2 ^ (32 - k)) = rot x k := by
  unfold rot
  rw [mul_mod_pow x k hk, Nat.two_pow_add_eq_or_of_lt (div_lt_pow hx hk)]

theorem xor_lt {a b : Nat} (ha : a < 4294967296) (hb : b < 4294967296) : a ^^^ b < 4294967296 := Nat.xor_lt_two_pow (n := 32) ha hb

theorem Ws.set {L : List Nat} (h : Ws L) (i v : Nat) (hv : v < 4294967296) : Ws (L.set i v) :=
  ⟨by simpa using h.len, fun j => by rw [g_set]; split; exact hv; exact h.lt j⟩
theorem Ws.half {L : List Nat} (h : Ws L) (a b d k : Nat) (hk : k ≤ 32) : Ws (half L a b d k) :=
  (h.set _ _ (add_lt _ _)).set _ _ (rot_lt (xor_lt (h.lt _) (add_lt _ _)) hk)
theorem Ws.quart {L : List Nat} (h : Ws L) (a b c d j k : Nat) (hj : j ≤ 32) (hk : k ≤ 32) : Ws (quart L a b c d j k) := (h.half _ _ _ _ hj).half _ _ _ _ hk
theorem Ws.step {L : List Nat} (h : Ws L) (a b c d : Nat) : Ws (step L a b c d) := (h.quart _ _ _ _ _ _ (by decide) (by decide)).quart _ _ _ _ _ _ (by decide) (by decide)
theorem Ws.cols {L : List Nat} (h : Ws L) : ∀ n, Ws (cols L n)
  | 0 => h
  | n + 1 => (Ws.cols h n).step _ _ _ _
theorem Ws.diags {L : List Nat} (h : Ws L) : ∀ n, Ws (diags L n)
  | 0 => h
  | n + 1 => (Ws.diags h n).step _ _ _ _
theorem Ws.rounds {L : List Nat} (h : Ws L) : ∀ n, Ws (rounds L n)
  | 0 => h
  | n + 1 => ((Ws.rounds h n).cols 4).diags 4

theorem word_lt {s : List Nat} (h : ∀ x ∈ s, x < 256) (i : Nat) : word s i < 4294967296 := by
  have f := g_lt_of_all (by decide) h
  have := f i; have := f (i + 1); have := f (i + 2); have := f (i + 3)
  unfold word
  omega

/-- A word as Go's text has it. -/
theorem word_or {a b c d : Nat} (ha : a < 256) (hb : b < 256) (hc : c < 256) (_hd : d < 256) : ((a ||| b * 256) ||| c * 65536) ||| d * 16777216 = a + 256 * b + 65536 * c + 16777216 * d := by
  have h1 : a ||| b * 256 = a + 256 * b := by
    have := Nat.two_pow_add_eq_or_of_lt (i := 8) ha b
    rw [Nat.or_comm, Nat.mul_comm b, show (256 : Nat) = 2 ^ 8 from rfl, ← this]
    omega
  have h2 : (a + 256 * b) ||| c * 65536 = a + 256 * b + 65536 * c := by
    have := Nat.two_pow_add_eq_or_of_lt (i := 16) (show a + 256 * b < 2 ^ 16 from by omega) c
    rw [Nat.or_comm, Nat.mul_comm c, show (65536 : Nat) = 2 ^ 16 from rfl, ← this]
    omega
  have h3 : (a + 256 * b + 65536 * c) ||| d * 16777216 = a + 256 * b + 65536 * c + 16777216 * d := by
    have := Nat.two_pow_add_eq_or_of_lt (i := 24) (show a + 256 * b + 65536 * c < 2 ^ 24 from by omega) d
    rw [Nat.or_comm, Nat.mul_comm d, show (16777216 : Nat) = 2 ^ 24 from rfl, ← this]
    omega
  rw [h1, h2, h3]

theorem begin_ws {key nonce : List Nat} {n : Nat} (hk : ∀ x ∈ key, x < 256) (hn : ∀ x ∈ nonce, x < 256) (hc : n < 4294967296) : Ws (begin_ key nonce n) := by
  refine ⟨by simp [begin_, keyed, consts], fun i => g_lt_of_all (by decide) (fun x hx => ?_) i⟩
  simp only [begin_, keyed, consts, List.mem_append, List.mem_cons, List.mem_map, List.mem_range, List.not_mem_nil, or_false] at hx
  rcases hx with (h | ⟨i, _, rfl⟩) | rfl | ⟨i, _, rfl⟩
  · rcases h with rfl | rfl | rfl | rfl <;> decide
  · exact word_lt hk _
  · exact hc
  · exact word_lt hn _

theorem block_len (key nonce : List Nat) (n : Nat) : (block key nonce n).length = 64 := by simp [block]
theorem block_lt (key nonce : List Nat) (n : Nat) : ∀ x ∈ block key nonce n, x < 256 := by
  intro x hx
  simp only [block, List.mem_map] at hx
  obtain ⟨j, _, rfl⟩ := hx
  exact Nat.mod_lt _ (by decide)

theorem half_eq (L : List Nat) (a b d k : Nat) (hda : a ≠ d) : half L a b d k = ((L.set a (add (g L a) (g L b))).set d (rot (g (L.set a (add (g L a) (g L b))) d ^^^ add (g L a) (g L b)) k)) := by
  unfold half
  rw [g_set, if_neg (fun h => hda h.1)]


theorem cols_zero (L : List Nat) : cols L 0 = L := by unfold cols; rfl
theorem diags_zero (L : List Nat) : diags L 0 = L := by unfold diags; rfl
theorem rounds_zero (L : List Nat) : rounds L 0 = L := by unfold rounds; rfl
theorem cols_succ (L : List Nat) (i : Nat) : cols L (i + 1) = step (cols L i) i (4 + i) (8 + i) (12 + i) := by rw [cols]
theorem diags_succ (L : List Nat) (i : Nat) : diags L (i + 1) = step (diags L i) i (4 + (i + 1) % 4) (8 + (i + 2) % 4) (12 + (i + 3) % 4) := by rw [diags]
theorem rounds_succ (L : List Nat) (n : Nat) : rounds L (n + 1) = diags (cols (rounds L n) 4) 4 := by rw [rounds]

/-! ### How rows are filled -/
theorem fill (A : List Nat) (m v : Nat) : (A ++ List.replicate (m + 1) 0).set A.length v = (A ++ [v]) ++ List.replicate m 0 := by
  rw [List.set_append_right _ _ (Nat.le_refl _), Nat.sub_self, List.replicate_succ]
  simp
/-- The words of the key as far as they are. -/
def kw (key : List Nat) (k : Nat) : List Nat := keyed key k ++ List.replicate (12 - k) 0
def nw (key nonce : List Nat) (n k : Nat) : List Nat := (keyed key 8 ++ n :: (List.range k).map (fun i => word nonce (4 * i))) ++ List.replicate (3 - k) 0
theorem keyed_len (key : List Nat) (k : Nat) : (keyed key k).length = 4 + k := by simp [keyed, consts]; omega
theorem kw_len {key : List Nat} {k : Nat} (h : k ≤ 12) : (kw key k).length = 16 := by simp [kw, keyed_len]; omega
theorem nw_len {key nonce : List Nat} {n k : Nat} (h : k ≤ 3) : (nw key nonce n k).length = 16 := by simp [nw, keyed_len]; omega
theorem kw_next (key : List Nat) (k : Nat) (h : k < 12) : (kw key k).set (4 + k) (word key (4 * k)) = kw key (k + 1) := by
  unfold kw
  obtain ⟨m, hm⟩ : ∃ m, 12 - k = m + 1 := ⟨11 - k, by omega⟩
  rw [hm, ← keyed_len key k, fill, show 12 - (k + 1) = m from by omega]
  congr 1
  simp [keyed, List.range_succ, consts]
theorem kw_n (key nonce : List Nat) (n : Nat) : (kw key 8).set 12 n = nw key nonce n 0 := by
  unfold kw nw
  rw [show 12 - 8 = 3 + 1 from rfl, show 12 = (keyed key 8).length from (keyed_len key 8).symm, fill]
  simp
theorem nw_next (key nonce : List Nat) (n k : Nat) (h : k < 3) : (nw key nonce n k).set (13 + k) (word nonce (4 * k)) = nw key nonce n (k + 1) := by
  unfold nw
  obtain ⟨m, hm⟩ : ∃ m, 3 - k = m + 1 := ⟨2 - k, by omega⟩
  rw [hm, show 13 + k = (keyed key 8 ++ n :: (List.range k).map (fun i => word nonce (4 * i))).length from by simp [keyed_len]; omega, fill, show 3 - (k + 1) = m from by omega]
  congr 1
  simp [List.range_succ]
theorem nw_done (key nonce : List Nat) (n : Nat) : nw key nonce n 3 = begin_ key nonce n := by simp [nw, begin_]
theorem kw_start (key : List Nat) : kw key 0 = [1634760805, 857760878, 2036477234, 1797285236, 0, 0, 0, 0, 0, 0, 0, 0, 0, 0, 0, 0] := by
  simp [kw, keyed, consts, List.replicate]
/-- The bytes that are laid, as far as they are. -/
def ow (x w : List Nat) (k : Nat) : List Nat := (List.range k).map (outb x w) ++ List.replicate (64 - k) 0
theorem ow_len {x w : List Nat} {k : Nat} (h : k ≤ 64) : (ow x w k).length = 64 := by simp [ow]; omega
theorem ow_next (x w : List Nat) (k : Nat) (h : k < 64) : (ow x w k).set k (outb x w k) = ow x w (k + 1) := by
  unfold ow
  obtain ⟨m, hm⟩ : ∃ m, 64 - k = m + 1 := ⟨63 - k, by omega⟩
  have := fill ((List.range k).map (outb x w)) m (outb x w k)
  simp only [List.length_map, List.length_range] at this
  rw [hm, this, show 64 - (k + 1) = m from by omega]
  congr 1
  simp [List.range_succ]
theorem ow_done (key nonce : List Nat) (n : Nat) : ow (rounds (begin_ key nonce n) 10) (begin_ key nonce n) 64 = block key nonce n := by simp [ow, block]
theorem outb_at (x w : List Nat) (i j : Nat) (hj : j < 4) : outb x w (4 * i + j) = (add (g x i) (g w i) / 2 ^ (8 * j)) % 256 := by
  unfold outb
  rw [show (4 * i + j) / 4 = i from by omega, show (4 * i + j) % 4 = j from by omega]

end Go.Proofs.Ytgdjapcpgkflbaa.Cc
