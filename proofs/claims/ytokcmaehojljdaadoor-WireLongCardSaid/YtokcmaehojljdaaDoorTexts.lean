/- The reading of rows, as plain functions on lists of bytes. -/
import Derived.Test.YtokcmaehojljdaaDoorPutPure
import Derived.Test.YtokcmaehojljdaaDoorPGetR
namespace Go.Proofs.YtokcmaehojljdaaDoor
open Go.RowKit Go.Proofs.YtokcmaehojljdaaDoorW.PrintWords Go.Proofs.YtokcmaehojljdaaDoorW.PrintLast Go.Proofs.YtokcmaehojljdaaDoorW.PrintMore

/-- A length that bytes begin with: the number, how many bytes, the error. -/
def rl : List UInt8 → Nat → Nat → Nat × Nat × Nat
  | [], _, _ => (0, 0, 4)
  | c :: t, n, i => if (i = 3 ∧ 128 ≤ c.toNat) ∨ (0 < i ∧ c.toNat = 0) then (0, 0, 3) else if c.toNat < 128 then (n + c.toNat % 128 * 128 ^ i, i + 1, 0) else rl t (n + c.toNat % 128 * 128 ^ i) (i + 1)

theorem bt_list (s : ByteArray) (i : Nat) (c : UInt8) (t : List UInt8) (h : s.data.toList.drop i = c :: t) : bt s (i : Int) = c.toNat ∧ i < s.size := by
  have hl : i < s.data.toList.length := by
    rcases Nat.lt_or_ge i s.data.toList.length with h' | h'
    · exact h'
    · rw [List.drop_eq_nil_of_le h'] at h; cases h
  have hl' : i < s.size := by simpa using hl
  refine ⟨?_, hl'⟩
  have e : s.data.toList[i]? = some c := by
    have := congrArg List.head? h
    rw [List.head?_drop] at this
    exact this
  unfold bt
  rw [dif_pos (by simpa using hl')]
  have e2 : s.data.toList[i] = c := by rw [List.getElem?_eq_getElem hl] at e; exact Option.some.inj e
  simp only [Int.toNat_natCast]
  rw [← e2]
  rfl
theorem drop_next {α : Type} (l : List α) (i : Nat) (c : α) (t : List α) (h : l.drop i = c :: t) : l.drop (i + 1) = t := by
  rw [← List.drop_drop, h]; rfl

theorem rl_bad (c : UInt8) (t : List UInt8) (n i : Nat) (h : (i = 3 ∧ 128 ≤ c.toNat) ∨ (0 < i ∧ c.toNat = 0)) : rl (c :: t) n i = (0, 0, 3) := by rw [rl, if_pos h]
theorem rl_last (c : UInt8) (t : List UInt8) (n i : Nat) (h : ¬ ((i = 3 ∧ 128 ≤ c.toNat) ∨ (0 < i ∧ c.toNat = 0))) (hc : c.toNat < 128) : rl (c :: t) n i = (n + c.toNat % 128 * 128 ^ i, i + 1, 0) := by rw [rl, if_neg h, if_pos hc]
theorem rl_on (c : UInt8) (t : List UInt8) (n i : Nat) (h : ¬ ((i = 3 ∧ 128 ≤ c.toNat) ∨ (0 < i ∧ c.toNat = 0))) (hc : ¬ c.toNat < 128) : rl (c :: t) n i = rl t (n + c.toNat % 128 * 128 ^ i) (i + 1) := by rw [rl, if_neg h, if_neg hc]
theorem j2_bad (k : Nat) (s : ByteArray) (n i c z j : Int) : PGet.num_read.j2 (k + 1) s n i c z j true = some (((0 : Nat) : Int), ((0 : Nat) : Int), ((3 : Nat) : Int)) := by
  rw [PGet.num_read.j2, if_pos rfl]; rfl
theorem j2_last (k : Nat) (s : ByteArray) (n i c z j : Int) (h : 0 ≤ wrap64 (7 * i)) (hc : c < 128) : PGet.num_read.j2 (k + 1) s n i c z j false = some (wrap64 (n + shl .i64 (Int.tmod c 128) (wrap64 (7 * i))), wrap64 (i + 1), 0) := by
  rw [PGet.num_read.j2, if_neg (by decide), if_pos h, if_pos hc]
theorem j2_on (k : Nat) (s : ByteArray) (n i c z j : Int) (h : 0 ≤ wrap64 (7 * i)) (hc : ¬ c < 128) : PGet.num_read.j2 (k + 1) s n i c z j false = PGet.num_read.l0 k s (wrap64 (n + shl .i64 (Int.tmod c 128) (wrap64 (7 * i)))) z (wrap64 (j + 1)) := by
  rw [PGet.num_read.j2, if_neg (by decide), if_pos h, if_neg hc]
theorem pow_len (i : Nat) (hi3 : i ≤ 3) : (128 : Nat) ^ i ≤ 2097152 := by
  have : (128 : Nat) ^ i ≤ 128 ^ 3 := Nat.pow_le_pow_right (by decide) hi3
  simpa using this
theorem mul_len (c p : Nat) (hc : c < 128) : c * p ≤ 127 * p := Nat.mul_le_mul_right _ (by omega)
theorem shl_len (c : UInt8) (i : Nat) (hi3 : i ≤ 3) (hc : c.toNat % 128 < 128) : shl .i64 (Int.tmod (c.toNat : Int) 128) ((7 * i : Nat) : Int) = ((c.toNat % 128 * 128 ^ i : Nat) : Int) := by
  unfold shl
  have e1 : min ((7 * i : Nat) : Int).toNat IntKind.i64.bits = 7 * i := by
    rw [Int.toNat_natCast]; exact Nat.min_eq_left (by show 7 * i ≤ 64; omega)
  have e0 : (Int.tmod (c.toNat : Int) 128) = ((c.toNat % 128 : Nat) : Int) := by rw [Int.tmod_eq_emod_of_nonneg (by omega)]; rfl
  rw [e1, e0]
  have e2 : (((c.toNat % 128 : Nat) : Int) * 2 ^ (7 * i)) = ((c.toNat % 128 * 128 ^ i : Nat) : Int) := by
    rw [Int.natCast_mul, Int.natCast_pow, Int.pow_mul]
    rfl
  rw [e2]
  have h1 := mul_len (c.toNat % 128) (128 ^ i) hc
  have h2 := pow_len i hi3
  generalize c.toNat % 128 * 128 ^ i = x at *
  generalize (128 : Nat) ^ i = p at *
  exact IntWalk.i64_in _ (by omega)
theorem sum_len (n i : Nat) (c : UInt8) (hi3 : i ≤ 3) (hn : n < 128 ^ i) : wrap64 ((n : Int) + ((c.toNat % 128 * 128 ^ i : Nat) : Int)) = ((n + c.toNat % 128 * 128 ^ i : Nat) : Int) := by
  have h1 := mul_len (c.toNat % 128) (128 ^ i) (Nat.mod_lt _ (by decide))
  have h2 := pow_len i hi3
  generalize c.toNat % 128 * 128 ^ i = x at *
  generalize (128 : Nat) ^ i = p at *
  unfold wrap64
  omega
theorem next_len (n i : Nat) (c : UInt8) (hn : n < 128 ^ i) : n + c.toNat % 128 * 128 ^ i < 128 ^ (i + 1) := by
  have h1 := mul_len (c.toNat % 128) (128 ^ i) (Nat.mod_lt _ (by decide))
  rw [Nat.pow_succ]
  generalize c.toNat % 128 * 128 ^ i = x at *
  generalize (128 : Nat) ^ i = p at *
  omega
theorem l0_end (k : Nat) (s : ByteArray) (n z j : Int) (h : ¬ j < z) : PGet.num_read.l0 (k + 1) s n z j = some (((0 : Nat) : Int), ((0 : Nat) : Int), ((4 : Nat) : Int)) := by
  rw [PGet.num_read.l0, if_neg h]; rfl
theorem read_pure (s : ByteArray) (hs : s.size ≤ 9223372036854775807) (d : Nat) : ∀ (i n k : Nat), d + i = 4 → 0 < d → i ≤ s.size → 3 * d < k → Aside0 (n < 128 ^ i) →
    PGet.num_read.l0 k s n (s.size : Int) i = some ((((rl (s.data.toList.drop i) n i).1 : Nat) : Int), (((rl (s.data.toList.drop i) n i).2.1 : Nat) : Int), (((rl (s.data.toList.drop i) n i).2.2 : Nat) : Int)) := by
  induction d with
  | zero => exact fun _ _ _ _ h0 => absurd h0 (by decide)
  | succ d ih =>
    intro i n k hd _ hi hk hn
    obtain ⟨k, rfl⟩ : ∃ m, k = m + 3 := ⟨k - 3, by omega⟩
    have hs0 := Aside0.mk hs
    cases hL : s.data.toList.drop i with
    | nil =>
      have hge : s.size ≤ i := by
        have := List.drop_eq_nil_iff.1 hL
        simpa using this
      exact l0_end (k + 2) s n s.size i (by omega)
    | cons c t =>
      obtain ⟨hb, hlt⟩ := bt_list s i c t hL
      have hc := c.toNat_lt
      have hi3 : i ≤ 3 := by omega
      have hw : wrap64 (c.toNat : Int) = c.toNat := by unfold wrap64; omega
      have hw7 : wrap64 (7 * (i : Int)) = ((7 * i : Nat) : Int) := by unfold wrap64; omega
      have hi1 : wrap64 ((i : Int) + 1) = ((i + 1 : Nat) : Int) := by unfold wrap64; omega
      have g7 : 0 ≤ wrap64 (7 * (i : Int)) := by rw [hw7]; exact Int.natCast_nonneg _
      have q1 : (i : Int) < s.size := by omega
      have q2 : ((i : Int) = 3) ↔ i = 3 := by omega
      have q3 : ((i : Int) > 0) ↔ 0 < i := by omega
      have q4 : ((c.toNat : Int) ≥ 128) ↔ 128 ≤ c.toNat := by omega
      have q5 : ((c.toNat : Int) = 0) ↔ c.toNat = 0 := by omega
      have q6 : ((c.toNat : Int) < 128) ↔ c.toNat < 128 := by omega
      have hd1 : d = 0 → i = 3 := by omega
      have hd2 : d + (i + 1) = 4 := by omega
      have hd3 : i + 1 ≤ s.size := by omega
      have hd4 : 3 * d < k := by omega
      clear hs hk hi hd hlt
      have hsh := shl_len c i hi3 (Nat.mod_lt _ (by decide))
      have hsum := sum_len n i c hi3 hn.out
      have hnext := next_len n i c hn.out
      have hj2 : ∀ x16 : Bool, (x16 = true ↔ ((i = 3 ∧ 128 ≤ c.toNat) ∨ (0 < i ∧ c.toNat = 0))) →
          PGet.num_read.j2 (k + 1) s n i c.toNat (s.size : Int) i x16 = some ((((rl (c :: t) n i).1 : Nat) : Int), (((rl (c :: t) n i).2.1 : Nat) : Int), (((rl (c :: t) n i).2.2 : Nat) : Int)) := by
        intro x16 hx
        by_cases hbad : (i = 3 ∧ 128 ≤ c.toNat) ∨ (0 < i ∧ c.toNat = 0)
        · rw [rl_bad c t n i hbad, hx.2 hbad]
          exact j2_bad k s n i c.toNat s.size i
        · have hx' : x16 = false := by cases x16 with
            | true => exact absurd (hx.1 rfl) hbad
            | false => rfl
          rw [hx']
          by_cases hlast : c.toNat < 128
          · rw [rl_last c t n i hbad hlast, j2_last k s n i c.toNat s.size i g7 (q6.2 hlast), hw7, hsh, hsum, hi1]
            simp only [Int.natCast_zero]
          · rw [rl_on c t n i hbad hlast, j2_on k s n i c.toNat s.size i g7 (fun e => hlast (q6.1 e)), hw7, hsh, hsum, hi1, ← drop_next _ _ _ _ hL]
            by_cases hd0 : d = 0
            · exact absurd (Or.inl ⟨hd1 hd0, Nat.not_lt.1 hlast⟩) hbad
            · exact ih (i + 1) _ k hd2 (Nat.pos_of_ne_zero hd0) hd3 hd4 ⟨hnext⟩
      clear hsh hsum hnext hn
      rw [PGet.num_read.l0, if_pos q1, if_pos (Int.natCast_nonneg _), if_pos q1, hb, hw]
      by_cases h3 : i = 3
      · rw [if_pos (q2.2 h3), PGet.num_read.j1]
        by_cases h128 : 128 ≤ c.toNat
        · rw [if_pos (decide_eq_true (q4.2 h128)), decide_eq_true (q4.2 h128)]
          exact hj2 true ⟨fun _ => .inl ⟨h3, h128⟩, fun _ => rfl⟩
        · rw [decide_eq_false (fun e => h128 (q4.1 e)), if_neg (by decide), if_pos (q3.2 (by omega))]
          exact hj2 _ ⟨fun e => .inr ⟨by omega, q5.1 (beq_iff_eq.1 e)⟩, fun e => beq_iff_eq.2 (q5.2 (by omega))⟩
      · rw [if_neg (fun e => h3 (q2.1 e)), PGet.num_read.j1, if_neg (by decide)]
        by_cases h0 : 0 < i
        · rw [if_pos (q3.2 h0)]
          exact hj2 _ ⟨fun e => .inr ⟨h0, q5.1 (beq_iff_eq.1 e)⟩, fun e => beq_iff_eq.2 (q5.2 (by omega))⟩
        · rw [if_neg (fun e => h0 (q3.1 e))]
          exact hj2 false ⟨fun e => absurd e (by decide), fun e => absurd e (by omega)⟩
/-- A length is read as it was written. -/
theorem rl_lenU (d : Nat) : ∀ (m n i : Nat) (R : List UInt8), m < 128 ^ (d + 1) → i + d ≤ 3 → (0 < i → 0 < m) → rl (lenU m ++ R) n i = (n + m * 128 ^ i, i + (lenU m).length, 0) := by
  induction d with
  | zero =>
    intro m n i R hm hi h0
    have hm' : m < 128 := by simpa using hm
    have e : (UInt8.ofNat m).toNat = m := by simp; omega
    rw [lenU, if_pos hm', List.singleton_append, rl_last _ _ _ _ (by rw [e]; omega) (by rw [e]; exact hm'), e, Nat.mod_eq_of_lt hm']
    rfl
  | succ d ih =>
    intro m n i R hm hi h0
    by_cases hm' : m < 128
    · have e : (UInt8.ofNat m).toNat = m := by simp; omega
      rw [lenU, if_pos hm', List.singleton_append, rl_last _ _ _ _ (by rw [e]; omega) (by rw [e]; exact hm'), e, Nat.mod_eq_of_lt hm']
      rfl
    · have e : (UInt8.ofNat (m % 128 + 128)).toNat = m % 128 + 128 := by simp; omega
      have hdv : m / 128 < 128 ^ (d + 1) := by
        rw [Nat.pow_succ] at hm
        exact Nat.div_lt_of_lt_mul (by rw [Nat.mul_comm]; exact hm)
      have e2 : (m % 128 + 128) % 128 = m % 128 := by omega
      rw [lenU, if_neg hm', List.cons_append, rl_on _ _ _ _ (by rw [e]; omega) (by rw [e]; omega), e, e2, ih (m / 128) _ (i + 1) R hdv (by omega) (by omega)]
      have e3 : n + m % 128 * 128 ^ i + m / 128 * 128 ^ (i + 1) = n + m * 128 ^ i := by
        rw [Nat.pow_succ]
        have : m * 128 ^ i = (m % 128 + m / 128 * 128) * 128 ^ i := by rw [Nat.mul_comm (m / 128), Nat.mod_add_div]
        rw [this, Nat.add_mul, Nat.mul_assoc, Nat.mul_comm 128 (128 ^ i)]
        omega
      rw [e3, List.length_cons]
      congr 2
      omega
/-- What is read off is a length as it is written, and the bytes behind it stay. -/
theorem rl_back : ∀ (L : List UInt8) (n i : Nat) (r sz : Nat), i ≤ 3 → rl L n i = (r, sz, 0) → ∃ m R, L = lenU m ++ R ∧ r = n + m * 128 ^ i ∧ sz = i + (lenU m).length ∧ (0 < i → 0 < m) ∧ m < 128 ^ (4 - i)
  | [], n, i, r, sz, _, h => by rw [rl] at h; simp at h
  | c :: t, n, i, r, sz, hi, h => by
    have hc := c.toNat_lt
    by_cases hbad : (i = 3 ∧ 128 ≤ c.toNat) ∨ (0 < i ∧ c.toNat = 0)
    · rw [rl_bad _ _ _ _ hbad] at h; simp at h
    by_cases hl : c.toNat < 128
    · rw [rl_last _ _ _ _ hbad hl, Nat.mod_eq_of_lt hl] at h
      simp only [Prod.mk.injEq, and_true] at h
      refine ⟨c.toNat, t, ?_, h.1.symm, ?_, by omega, ?_⟩
      · rw [lenU, if_pos hl]; simp
      · rw [lenU, if_pos hl]; simp; exact h.2.symm
      · exact Nat.lt_of_lt_of_le hl (by have := Nat.pow_le_pow_right (show 0 < 128 by decide) (show 1 ≤ 4 - i by omega); simpa using this)
    · rw [rl_on _ _ _ _ hbad hl] at h
      have hi3 : i + 1 ≤ 3 := by omega
      obtain ⟨m, R, rfl, hr, hs, h0, hm⟩ := rl_back t _ _ r sz hi3 h
      have hm0 := h0 (by omega)
      have e1 : (c.toNat % 128 + m * 128) / 128 = m := by omega
      have e2 : (c.toNat % 128 + m * 128) % 128 + 128 = c.toNat := by omega
      have e3 : lenU (c.toNat % 128 + m * 128) = c :: lenU m := by
        rw [lenU, if_neg (by omega), e1, e2]; simp
      refine ⟨c.toNat % 128 + m * 128, R, by rw [e3]; rfl, ?_, by rw [e3, hs, List.length_cons]; omega, by omega, ?_⟩
      · rw [hr, Nat.pow_succ, Nat.add_mul, Nat.mul_assoc, Nat.mul_comm 128 (128 ^ i), Nat.add_assoc]
      · have e4 : 128 ^ (4 - i) = 128 ^ (4 - (i + 1)) * 128 := by rw [← Nat.pow_succ]; congr 1; omega
        rw [e4]
        generalize 128 ^ (4 - (i + 1)) = q at *
        omega
/-- The texts of bytes. -/
def tl : Nat → List UInt8 → List ByteArray → List ByteArray × Nat
  | 0, _, _ => ([], 0)
  | _ + 1, [], acc => (acc, 0)
  | k + 1, c :: t, acc =>
    if (rl (c :: t) 0 0).2.2 ≠ 0 then ([], (rl (c :: t) 0 0).2.2)
    else if (c :: t).length - (rl (c :: t) 0 0).2.1 < (rl (c :: t) 0 0).1 then ([], 4)
    else tl k ((c :: t).drop ((rl (c :: t) 0 0).2.1 + (rl (c :: t) 0 0).1)) (acc ++ [⟨(((c :: t).drop (rl (c :: t) 0 0).2.1).take (rl (c :: t) 0 0).1).toArray⟩])
/-- What is written is read. -/
theorem tl_row (l : List ByteArray) : ∀ (k : Nat) (acc : List ByteArray) (R : List UInt8), l.length < k → (∀ s ∈ l, s.size < 268435456) → tl k (rowU l ++ R) acc = tl (k - l.length) R (acc ++ l) := by
  induction l with
  | nil => intro k acc R _ _; simp [rowU]
  | cons s l ih =>
    intro k acc R hk hs
    obtain ⟨k, rfl⟩ : ∃ m, k = m + 1 := ⟨k - 1, by simp at hk; omega⟩
    have hsz := hs s (by simp)
    have e : rowU (s :: l) ++ R = lenU s.size ++ (s.data.toList ++ (rowU l ++ R)) := by simp [rowU]
    have hr := rl_lenU 3 s.size 0 0 (s.data.toList ++ (rowU l ++ R)) (by simpa using hsz) (by omega) (by omega)
    simp only [Nat.pow_zero, Nat.mul_one, Nat.zero_add] at hr
    rw [e]
    cases hL : lenU s.size ++ (s.data.toList ++ (rowU l ++ R)) with
    | nil => exact absurd (congrArg List.length hL) (by have := lenU_pos s.size; rw [List.length_append, List.length_nil]; omega)
    | cons c t =>
      rw [tl, ← hL, hr]
      have hdl : s.data.toList.length = s.size := by simp
      rw [if_neg (by simp), if_neg (by rw [List.length_append, List.length_append, hdl]; simp only []; omega)]
      have e1 : (lenU s.size ++ (s.data.toList ++ (rowU l ++ R))).drop ((lenU s.size).length) = s.data.toList ++ (rowU l ++ R) := by simp
      have e2 : (lenU s.size ++ (s.data.toList ++ (rowU l ++ R))).drop ((lenU s.size).length + s.size) = rowU l ++ R := by
        rw [← List.drop_drop, e1, ← hdl, List.drop_left]
      have e3 : ((s.data.toList ++ (rowU l ++ R)).take s.size) = s.data.toList := by rw [← hdl, List.take_left]
      simp only []
      rw [e1, e2, e3, ih k _ R (by simp at hk; omega) (fun x hx => hs x (by simp [hx]))]
      simp
/-- What is read is written as it was. -/
theorem tl_back : ∀ (k : Nat) (L : List UInt8) (acc r : List ByteArray), L.length < k → tl k L acc = (r, 0) → rowU r = rowU acc ++ L
  | 0, _, _, _, h, _ => absurd h (Nat.not_lt_zero _)
  | k + 1, [], acc, r, _, h => by
    rw [tl] at h
    simp only [Prod.mk.injEq, and_true] at h
    rw [h]; simp
  | k + 1, c :: t, acc, r, hk, h => by
    rw [tl] at h
    by_cases h1 : (rl (c :: t) 0 0).2.2 ≠ 0
    · rw [if_pos h1] at h
      exact absurd (congrArg Prod.snd h) h1
    rw [if_neg h1] at h
    by_cases h2 : (c :: t).length - (rl (c :: t) 0 0).2.1 < (rl (c :: t) 0 0).1
    · rw [if_pos h2] at h
      exact absurd (show (4 : Nat) = 0 from congrArg Prod.snd h) (by decide)
    rw [if_neg h2] at h
    have h1' : (rl (c :: t) 0 0).2.2 = 0 := by omega
    obtain ⟨m, R, hL, hm, hsz, _, _⟩ := rl_back (c :: t) 0 0 (rl (c :: t) 0 0).1 (rl (c :: t) 0 0).2.1 (by omega) (Prod.ext rfl (Prod.ext rfl h1'))
    simp only [Nat.pow_zero, Nat.mul_one, Nat.zero_add] at hm hsz
    rw [hm, hsz] at h h2
    rw [hL] at h h2 hk ⊢
    have hp := lenU_pos m
    rw [List.length_append] at h2 hk
    have e1 : (lenU m ++ R).drop (lenU m).length = R := List.drop_left
    rw [← List.drop_drop, e1] at h
    have ih := tl_back k (R.drop m) _ r (by rw [List.length_drop]; omega) h
    rw [ih]
    have hlen : (R.take m).length = m := by rw [List.length_take]; omega
    have e2 : rowU (acc ++ [⟨(R.take m).toArray⟩]) = rowU acc ++ (lenU m ++ R.take m) := by
      have : (⟨(R.take m).toArray⟩ : ByteArray).size = m := by show (R.take m).toArray.size = m; simpa using hlen
      simp only [rowU, List.flatMap_append, List.flatMap_cons, List.flatMap_nil, List.append_nil, this]
    rw [e2, List.append_assoc, List.append_assoc, List.take_append_drop]
theorem rl_size : ∀ (L : List UInt8) (n i : Nat), i ≤ 3 → n < 128 ^ i → (rl L n i).1 < 268435456 ∧ (rl L n i).2.1 ≤ 4 ∧ ((rl L n i).2.2 = 0 → (rl L n i).2.1 ≤ i + L.length)
  | [], n, i, _, _ => by rw [rl]; simp
  | c :: t, n, i, hi, hn => by
    by_cases hbad : (i = 3 ∧ 128 ≤ c.toNat) ∨ (0 < i ∧ c.toNat = 0)
    · rw [rl_bad _ _ _ _ hbad]; simp
    have hx := next_len n i c hn
    have hp : (128 : Nat) ^ (i + 1) ≤ 268435456 := by
      have : (128 : Nat) ^ (i + 1) ≤ 128 ^ 4 := Nat.pow_le_pow_right (by decide) (by omega)
      simpa using this
    by_cases hl : c.toNat < 128
    · rw [rl_last _ _ _ _ hbad hl]
      refine ⟨Nat.lt_of_lt_of_le hx hp, by simp; omega, fun _ => by simp⟩
    · rw [rl_on _ _ _ _ hbad hl]
      have h := rl_size t _ (i + 1) (by omega) hx
      refine ⟨h.1, h.2.1, fun e => ?_⟩
      have := h.2.2 e
      rw [List.length_cons]; omega
theorem extract_list (s : ByteArray) (a b : Nat) : (s.extract a b).data.toList = (s.data.toList.drop a).take (b - a) := by
  rw [ByteArray.data_extract]
  simp only [Array.toList_extract, List.extract_eq_take_drop]
theorem byteArray_eq (s : ByteArray) (L : List UInt8) (h : s.data.toList = L) : s = ⟨L.toArray⟩ := by
  apply ByteArray.ext
  rw [← h]
theorem toList_nil (s : ByteArray) : s.toList = [] ↔ s.data.toList = [] := by
  have e : s.toList = s.data.toList := ByteArray.toList_eq s
  rw [e]
theorem read_f (s : ByteArray) (hs : s.size ≤ 9223372036854775807) (k : Nat) (hk : 12 < k) : PGet.num_read.f k s = some ((((rl s.data.toList 0 0).1 : Nat) : Int), (((rl s.data.toList 0 0).2.1 : Nat) : Int), (((rl s.data.toList 0 0).2.2 : Nat) : Int)) := by
  have h := read_pure s hs 4 0 0 k rfl (by decide) (Nat.zero_le _) (by omega) ⟨by decide⟩
  rw [List.drop_zero] at h
  exact h
theorem texts_pure : ∀ (d k : Nat) (s : ByteArray) (acc : List ByteArray), s.size < d → d + 13 ≤ k → s.size ≤ 140737488351232 → acc.length + s.size < 8796093022208 →
    PGet.num_Texts.l0 k s acc = some ((tl d s.data.toList acc).1, (((tl d s.data.toList acc).2 : Nat) : Int))
  | 0, _, _, _, h, _, _, _ => absurd h (Nat.not_lt_zero _)
  | d + 1, k, s, acc, hd, hk, hs, ha => by
    obtain ⟨k, rfl⟩ : ∃ m, k = m + 1 := ⟨k - 1, by omega⟩
    rw [PGet.num_Texts.l0]
    cases hL : s.data.toList with
    | nil => rw [if_pos ((toList_nil s).2 hL), tl]; rfl
    | cons c t =>
      have hne : ¬ s.toList = [] := fun e => by rw [toList_nil, hL] at e; cases e
      have hsz : s.size = (c :: t).length := by rw [← hL]; simp
      rw [if_neg hne, read_f s (by omega) k (by omega), hL]
      simp only [Option.bind_some]
      have hr := rl_size (c :: t) 0 0 (by omega) (by decide)
      have hb : ∀ r sz, rl (c :: t) 0 0 = (r, sz, 0) → 0 < sz := fun r sz e => by
        obtain ⟨m, R, _, _, h3, _⟩ := rl_back (c :: t) 0 0 r sz (by omega) e
        have := lenU_pos m
        omega
      rw [tl]
      obtain ⟨r, hr1⟩ : ∃ r, r = (rl (c :: t) 0 0).1 := ⟨_, rfl⟩
      obtain ⟨sz, hr2⟩ : ∃ sz, sz = (rl (c :: t) 0 0).2.1 := ⟨_, rfl⟩
      obtain ⟨e, hr3⟩ : ∃ e, e = (rl (c :: t) 0 0).2.2 := ⟨_, rfl⟩
      have hb' : e = 0 → 0 < sz := fun h0 => hb r sz (Prod.ext hr1.symm (Prod.ext hr2.symm (hr3.symm.trans h0)))
      rw [← hr1, ← hr2, ← hr3] at hr ⊢
      clear hb hr1 hr2 hr3
      by_cases h0 : e = 0
      · subst h0
        have h3 := hr.2.2 rfl
        have h4 := hb' rfl
        have w1 : wrap64 ((s.size : Int) - (sz : Int)) = ((s.size - sz : Nat) : Int) := by unfold wrap64; omega
        have w2 : wrap64 ((sz : Int) + (r : Int)) = ((sz + r : Nat) : Int) := by unfold wrap64; omega
        have nz : ¬ ((0 : Nat) ≠ 0) := by decide
        rw [if_pos (by rfl), w1, w2, if_neg nz]
        by_cases hlt : (c :: t).length - sz < r
        · rw [if_pos (by omega), if_pos hlt]; rfl
        · rw [if_neg (by omega), if_neg hlt, if_pos (by omega), if_pos (by omega), if_pos (by omega), if_pos (by omega), if_pos (by omega)]
          have x1 : (s.extract (sz + r) s.size).data.toList = (c :: t).drop (sz + r) := by
            rw [extract_list, hL, List.take_of_length_le (by rw [List.length_drop]; omega)]
          have x2 : s.extract sz (sz + r) = ⟨(((c :: t).drop sz).take r).toArray⟩ := byteArray_eq _ _ (by rw [extract_list, hL]; congr 1; omega)
          simp only [Int.toNat_natCast]
          rw [texts_pure d k (s.extract (sz + r) s.size) _ (by simp; omega) (by omega) (by simp; omega) (by simp; omega), x1, x2]
      · rw [if_neg (by omega), if_pos h0]
end Go.Proofs.YtokcmaehojljdaaDoor
