/- Decimal texts: what is written is read; the reference's Dec and Int. -/
import Derived.Test.YtaimjdfeijgbmaaDoorDec
import Derived.Test.YtaimjdfeijgbmaaDoorPNumx4
import Derived.Lib.ItoaLen
namespace Go.Proofs.YtaimjdfeijgbmaaDoor
open Go.RowKit Go.Lib Go.Proofs.YtaimjdfeijgbmaaDoorW.PrintWords Go.Proofs.YtaimjdfeijgbmaaDoorW.PrintLast Go.Proofs.YtaimjdfeijgbmaaDoorW.PrintMore

theorem wrap_int (x : Int) (h : -9223372036854775808 ≤ x ∧ x ≤ 9223372036854775807) : wrap64 x = x := by unfold wrap64; omega
theorem wrap_range (x : Int) : -9223372036854775808 ≤ wrap64 x ∧ wrap64 x ≤ 9223372036854775807 := by unfold wrap64; omega
def dval (a : Nat) (L : List UInt8) : Nat := L.foldl (fun a c => a * 10 + (c.toNat - 48)) a
theorem dval_nil (a : Nat) : dval a [] = a := by unfold dval; rw [List.foldl_nil]
theorem dval_cons (a : Nat) (c : UInt8) (r : List UInt8) : dval a (c :: r) = dval (a * 10 + (c.toNat - 48)) r := by unfold dval; rw [List.foldl_cons]
def Dig (L : List UInt8) : Prop := ∀ c ∈ L, 48 ≤ c.toNat ∧ c.toNat ≤ 57
theorem dval_snoc (L : List UInt8) (a : Nat) (c : UInt8) : dval a (L ++ [c]) = dval a L * 10 + (c.toNat - 48) := by
  unfold dval; rw [List.foldl_append, List.foldl_cons, List.foldl_nil]
theorem dval_le : ∀ (L : List UInt8) (a : Nat), a ≤ dval a L
  | [], _ => Nat.le_refl _
  | c :: L, a => by
    have := dval_le L (a * 10 + (c.toNat - 48))
    rw [dval_cons]; omega
theorem dec_small (u : Nat) (h : u < 10) : decDigits u = [UInt8.ofNat (48 + u)] := by rw [decDigits, dif_pos h]
theorem dec_big (u : Nat) (h : ¬ u < 10) : decDigits u = decDigits (u / 10) ++ [UInt8.ofNat (48 + u % 10)] := by rw [decDigits, dif_neg h]
theorem digit_nat (d : Nat) (h : d < 10) : (UInt8.ofNat (48 + d)).toNat = 48 + d := by simp; omega
theorem dec_dig (d : Nat) : ∀ u, u < 10 ^ (d + 1) → Dig (decDigits u) ∧ dval 0 (decDigits u) = u ∧ (decDigits u).length ≤ d + 1 ∧ 0 < (decDigits u).length := by
  induction d with
  | zero =>
    intro u h
    have h : u < 10 := by simpa using h
    rw [dec_small u h]
    refine ⟨?_, ?_, by simp, by simp⟩
    · intro c hc
      rw [List.mem_singleton.1 hc, digit_nat u h]; omega
    · rw [dval_cons, dval_nil, digit_nat u h]; omega
  | succ d ih =>
    intro u h
    by_cases h1 : u < 10
    · rw [dec_small u h1]
      refine ⟨?_, ?_, by simp, by simp⟩
      · intro c hc
        rw [List.mem_singleton.1 hc, digit_nat u h1]; omega
      · rw [dval_cons, dval_nil, digit_nat u h1]; omega
    · rw [Nat.pow_succ] at h
      obtain ⟨i1, i2, i3, i4⟩ := ih (u / 10) (by omega)
      have hm : u % 10 < 10 := Nat.mod_lt _ (by decide)
      rw [dec_big u h1]
      refine ⟨?_, ?_, by simp; omega, by simp⟩
      · intro c hc
        rcases List.mem_append.1 hc with hc | hc
        · exact i1 c hc
        · rw [List.mem_singleton.1 hc, digit_nat _ hm]; omega
      · rw [dval_snoc, i2, digit_nat _ hm]; omega
theorem parse_dig (M : Nat) (hM : M ≤ 18446744073709551615) : ∀ (L : List UInt8) (a : Nat), Dig L → dval a L ≤ M → parseUintM M a L = .ok (dval a L)
  | [], a, _, _ => rfl
  | c :: r, a, hd, h => by
    have h1 := hd c (by simp)
    have h2 := dval_le r (a * 10 + (c.toNat - 48))
    rw [dval_cons] at h ⊢
    rw [parseUintM, if_pos h1, if_neg (by omega), if_neg (by omega)]
    exact parse_dig M hM r _ (fun x hx => hd x (by simp [hx])) h
theorem itoa_parts (v : Int) (h0 : -9223372036854775808 ≤ v) (h1 : v ≤ 9223372036854775807) :
    (v < 0 ∧ itoa v = 45 :: decDigits v.natAbs ∧ v.natAbs ≤ 9223372036854775808) ∨ (0 ≤ v ∧ itoa v = decDigits v.toNat ∧ v.toNat ≤ 9223372036854775807) := by
  unfold itoa
  by_cases h : v < 0
  · exact .inl ⟨h, by rw [if_pos h], by omega⟩
  · exact .inr ⟨by omega, by rw [if_neg h], by omega⟩
theorem dig_of (u : Nat) (h : u ≤ 9223372036854775808) : Dig (decDigits u) ∧ dval 0 (decDigits u) = u ∧ (decDigits u).length ≤ 19 ∧ 0 < (decDigits u).length := dec_dig 18 u (Nat.lt_of_le_of_lt h (by decide))
theorem parse_itoa (v : Int) (h0 : -9223372036854775808 ≤ v) (h1 : v ≤ 9223372036854775807) : parseIntB 64 (itoa v) = .ok v := by
  rcases itoa_parts v h0 h1 with ⟨hn, e, hb⟩ | ⟨hn, e, hb⟩
  · obtain ⟨d1, d2, d3, d4⟩ := dig_of v.natAbs hb
    have hne : decDigits v.natAbs ≠ [] := fun e => by rw [e] at d4; simp at d4
    have hp := parse_dig 18446744073709551615 (Nat.le_refl _) (decDigits v.natAbs) 0 d1 (by rw [d2]; omega)
    rw [d2] at hp
    have hu : parseUintB 64 (decDigits v.natAbs) = .ok v.natAbs := by
      rw [parseUintB, if_neg hne]
      exact hp
    have c45 : (45 : UInt8).toNat = 45 := rfl
    rw [e, parseIntB]
    simp only [c45, or_true, if_true, hu]
    rw [if_neg (by simp), if_neg (by show ¬ (True ∧ 9223372036854775808 < v.natAbs); omega)]
    congr 1; omega
  · obtain ⟨d1, d2, d3, d4⟩ := dig_of v.toNat (by omega)
    have hp := parse_dig 18446744073709551615 (Nat.le_refl _) (decDigits v.toNat) 0 d1 (by rw [d2]; omega)
    rw [d2] at hp
    rw [e]
    cases hL : decDigits v.toNat with
    | nil => rw [hL] at d4; simp at d4
    | cons c r =>
      rw [hL] at d1 hp
      have hc := d1 c (by simp)
      have hu : parseUintB 64 (c :: r) = .ok v.toNat := by
        rw [parseUintB, if_neg (by simp)]
        exact hp
      have n45 : (c.toNat = 45) = False := eq_false (by omega)
      have n43 : (c.toNat = 43) = False := eq_false (by omega)
      rw [parseIntB]
      simp only [n45, n43, or_false, if_false, hu]
      rw [if_neg (by show ¬ (¬ False ∧ 9223372036854775808 ≤ v.toNat); omega), if_neg (by simp)]
      congr 1; omega
theorem int_dec (v : Int) (h0 : -9223372036854775808 ≤ v) (h1 : v ≤ 9223372036854775807) : int (dec v) = (v, true) := by
  unfold int dec
  have e : (⟨(itoa v).toArray⟩ : ByteArray).data.toList = itoa v := rfl
  rw [e, parse_itoa v h0 h1]
  simp
theorem int_parts (s : ByteArray) : (∃ v, -9223372036854775808 ≤ v ∧ v ≤ 9223372036854775807 ∧ s = dec v ∧ int s = (v, true)) ∨ (int s = (0, false) ∧ ∀ v, -9223372036854775808 ≤ v → v ≤ 9223372036854775807 → s ≠ dec v) := by
  by_cases h : ∃ v, -9223372036854775808 ≤ v ∧ v ≤ 9223372036854775807 ∧ s = dec v
  · obtain ⟨v, h0, h1, e⟩ := h
    exact .inl ⟨v, h0, h1, e, by rw [e]; exact int_dec v h0 h1⟩
  · refine .inr ⟨?_, fun v h0 h1 e => h ⟨v, h0, h1, e⟩⟩
    have hi : int s = match Lib.parseIntB 64 s.data.toList with
      | .ok v => if Lib.itoa v = s.data.toList then (v, true) else (0, false)
      | _ => (0, false) := rfl
    rcases num_end (Lib.parseIntB 64 s.data.toList) with ⟨v, hp⟩ | hp | hp
    ·
      rw [hp] at hi
      have hr := parse_range s v hp
      rw [hi]
      exact if_neg (fun e => h ⟨v, hr.1, hr.2, by unfold dec; rw [e]⟩)
    · rw [hp] at hi; exact hi
    · rw [hp] at hi; exact hi
/-! ### The reference's Dec -/
theorem one_digit (n : Int) (m : Nat) (h : n = ((48 + m : Nat) : Int)) (hm : m < 10) : strOfNums [n % 256] = ⟨[UInt8.ofNat (48 + m)].toArray⟩ := by
  subst h
  have : (((48 + m : Nat) : Int) % 256).toNat = 48 + m := by omega
  simp only [strOfNums, List.map_cons, List.map_nil, this]
theorem bytes_app (l m : List UInt8) : (⟨l.toArray⟩ : ByteArray) ++ ⟨m.toArray⟩ = ⟨(l ++ m).toArray⟩ := by
  apply ByteArray.ext
  simp [ByteArray.data_append]
theorem bytes_size (l : List UInt8) : (⟨l.toArray⟩ : ByteArray).size = l.length := by simp [ByteArray.size]
theorem ref_digit (u k : Nat) (h : u < 10) : PNum.hibernacleref01_Dec.f (k + 2) u = some ⟨(decDigits u).toArray⟩ := by
  have w : wrap64 (48 + (u : Int)) = 48 + (u : Int) := wrap_int _ (by omega)
  rw [PNum.hibernacleref01_Dec.f, if_pos (by omega), PNum.hibernacleref01_Dec.j0, if_pos (decide_eq_true (by omega)), w, one_digit _ u (by omega) h, dec_small u h]
theorem ref_dec_nat (d : Nat) : ∀ (u k : Nat), u < 10 ^ (d + 1) → u ≤ 9223372036854775807 → d ≤ 18 → 3 * d + 2 ≤ k → PNum.hibernacleref01_Dec.f k u = some ⟨(decDigits u).toArray⟩ := by
  induction d with
  | zero =>
    intro u k h _ _ hk
    obtain ⟨k, rfl⟩ : ∃ m, k = m + 2 := ⟨k - 2, by omega⟩
    exact ref_digit u k (by simpa using h)
  | succ d ih =>
    intro u k h hu hd hk
    by_cases h1 : u < 10
    · obtain ⟨k, rfl⟩ : ∃ m, k = m + 2 := ⟨k - 2, by omega⟩
      exact ref_digit u k h1
    · obtain ⟨k, rfl⟩ : ∃ m, k = m + 5 := ⟨k - 5, by omega⟩
      rw [Nat.pow_succ] at h
      have hlt : u / 10 < 10 ^ (d + 1) := by omega
      have hlen := (dec_dig d (u / 10) hlt).2.2.1
      clear h
      have e1 : Int.tmod (u : Int) 10 = ((u % 10 : Nat) : Int) := by rw [Int.tmod_eq_emod_of_nonneg (by omega)]; rfl
      have e2 : wrap64 (Int.tdiv (u : Int) 10) = ((u / 10 : Nat) : Int) := by rw [Int.tdiv_eq_ediv_of_nonneg (by omega)]; exact wrap_int _ (by omega)
      have z1 := ih (u / 10) (k + 2) hlt (by omega) (by omega) (by omega)
      have z2 := ref_digit (u % 10) k (Nat.mod_lt _ (by decide))
      rw [PNum.hibernacleref01_Dec.f, if_pos (by omega), PNum.hibernacleref01_Dec.j0, if_neg (by rw [decide_eq_false (by omega)]; decide), if_neg (by omega), PNum.hibernacleref01_Dec.j1, if_neg (by decide), e1, e2, if_neg (by omega), z1, z2]
      simp only [Option.bind_some]
      rw [bytes_size, bytes_size, dec_small (u % 10) (Nat.mod_lt _ (by decide)), if_pos (by rw [List.length_singleton]; omega), bytes_app, dec_big u h1]
theorem ref_dec_neg (d : Nat) : ∀ (u k : Nat), u < 10 ^ (d + 1) → 0 < u → u ≤ 9223372036854775808 → d ≤ 18 → 3 * d + 5 ≤ k → PNum.hibernacleref01_Dec.f k (-(u : Int)) = some ⟨(45 :: decDigits u).toArray⟩ := by
  have small : ∀ (u k : Nat), u < 10 → 0 < u → PNum.hibernacleref01_Dec.f (k + 5) (-(u : Int)) = some ⟨(45 :: decDigits u).toArray⟩ := by
    intro u k h hu
    have w : wrap64 (- -(u : Int)) = (u : Int) := by rw [Int.neg_neg]; exact wrap_int _ (by omega)
    rw [PNum.hibernacleref01_Dec.f, if_neg (by omega), PNum.hibernacleref01_Dec.j0, if_neg (by decide), if_pos (by omega), PNum.hibernacleref01_Dec.j1, if_pos (decide_eq_true (by omega)), w, ref_digit u k h]
    simp only [Option.bind_some]
    rw [bytes_size, dec_small u h, if_pos (by rw [List.length_singleton]; omega)]
    have e : (⟨#[45]⟩ : ByteArray) = ⟨[45].toArray⟩ := rfl
    rw [e, bytes_app]
    rfl
  induction d with
  | zero =>
    intro u k h hu _ _ hk
    obtain ⟨k, rfl⟩ : ∃ m, k = m + 5 := ⟨k - 5, by omega⟩
    exact small u k (by simpa using h) hu
  | succ d ih =>
    intro u k h hu hm hd hk
    obtain ⟨k, rfl⟩ : ∃ m, k = m + 5 := ⟨k - 5, by omega⟩
    by_cases h1 : u < 10
    · exact small u k h1 hu
    · rw [Nat.pow_succ] at h
      have hlt : u / 10 < 10 ^ (d + 1) := by omega
      have hlen := (dec_dig d (u / 10) hlt).2.2.1
      clear h
      have e1 : Int.tmod (-(u : Int)) 10 = -((u % 10 : Nat) : Int) := by rw [Int.neg_tmod, Int.tmod_eq_emod_of_nonneg (by omega)]; rfl
      have e2 : wrap64 (Int.tdiv (-(u : Int)) 10) = -((u / 10 : Nat) : Int) := by
        rw [Int.neg_tdiv, Int.tdiv_eq_ediv_of_nonneg (by omega)]
        exact wrap_int _ (by omega)
      have z1 := ih (u / 10) (k + 2) hlt (by omega) (by omega) (by omega) (by omega)
      have z2 := ref_digit (u % 10) k (Nat.mod_lt _ (by decide))
      have e3 : wrap64 (- -((u % 10 : Nat) : Int)) = ((u % 10 : Nat) : Int) := by rw [Int.neg_neg]; exact wrap_int _ (by omega)
      have fin : ∀ (g : Int), g = ((u % 10 : Nat) : Int) → ((PNum.hibernacleref01_Dec.f (k + 2) (-((u / 10 : Nat) : Int))).bind fun t169 => ((PNum.hibernacleref01_Dec.f (k + 2) g).bind fun t170 => (if t169.size + t170.size ≤ 9223372036854775807 then (some (t169 ++ t170)) else (none)))) = some ⟨(45 :: decDigits u).toArray⟩ := by
        rintro g rfl
        rw [z1, z2]
        simp only [Option.bind_some]
        rw [bytes_size, bytes_size, dec_small (u % 10) (Nat.mod_lt _ (by decide)), if_pos (by rw [List.length_singleton, List.length_cons]; omega), bytes_app, dec_big u h1]
        rfl
      rw [PNum.hibernacleref01_Dec.f, if_neg (by omega), PNum.hibernacleref01_Dec.j0, if_neg (by decide), if_pos (by omega), PNum.hibernacleref01_Dec.j1, if_neg (by rw [decide_eq_false (by omega)]; decide), e1, e2, e3]
      by_cases hz : u % 10 = 0
      · rw [if_neg (by omega)]
        exact fin _ (by omega)
      · rw [if_pos (by omega)]
        exact fin _ rfl
theorem ref_dec (v : Int) (h0 : -9223372036854775808 ≤ v) (h1 : v ≤ 9223372036854775807) (k : Nat) (hk : 60 ≤ k) : PNum.hibernacleref01_Dec.f k v = some (dec v) := by
  rcases itoa_parts v h0 h1 with ⟨hn, e, hb⟩ | ⟨hn, e, hb⟩
  · obtain ⟨u, rfl⟩ : ∃ u : Nat, v = -(u : Int) := ⟨v.natAbs, by omega⟩
    have e2 : (-(u : Int)).natAbs = u := by omega
    rw [e2] at e hb
    unfold dec
    rw [e]
    exact ref_dec_neg 18 u k (Nat.lt_of_le_of_lt hb (by decide)) (by omega) hb (by omega) (by omega)
  · obtain ⟨u, rfl⟩ := Int.eq_ofNat_of_zero_le hn
    rw [Int.toNat_natCast] at e hb
    unfold dec
    rw [e]
    exact ref_dec_nat 18 u k (Nat.lt_of_le_of_lt hb (by decide)) hb (by omega) (by omega)
end Go.Proofs.YtaimjdfeijgbmaaDoor
