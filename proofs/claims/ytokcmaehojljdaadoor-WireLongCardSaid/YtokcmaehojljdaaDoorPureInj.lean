/- Decimal texts, rows' bytes, digests: unlike ones are unlike. -/
import Derived.Test.YtokcmaehojljdaaDoorSBytes
namespace Go.Proofs.YtokcmaehojljdaaDoor
open Cc (g)
open Go.RowKit Go.Lib Go.Proofs.YtokcmaehojljdaaDoorW.PrintWords Go.Proofs.YtokcmaehojljdaaDoorW.PrintLast Go.Proofs.YtokcmaehojljdaaDoorW.PrintMore

def dval (a : Nat) (L : List UInt8) : Nat := L.foldl (fun a c => a * 10 + (c.toNat - 48)) a
theorem dval_nil (a : Nat) : dval a [] = a := by unfold dval; rw [List.foldl_nil]
theorem dval_cons (a : Nat) (c : UInt8) (r : List UInt8) : dval a (c :: r) = dval (a * 10 + (c.toNat - 48)) r := by unfold dval; rw [List.foldl_cons]
def Dig (L : List UInt8) : Prop := ∀ c ∈ L, 48 ≤ c.toNat ∧ c.toNat ≤ 57
theorem dval_snoc (L : List UInt8) (a : Nat) (c : UInt8) : dval a (L ++ [c]) = dval a L * 10 + (c.toNat - 48) := by
  unfold dval; rw [List.foldl_append, List.foldl_cons, List.foldl_nil]
theorem dval_le : ∀ (L : List UInt8) (a : Nat), a ≤ dval a L
  | [], _ => Nat.le_refl _
  | c :: L, a => by
    have := dval_le L (a * 10 + (c.toNat - 48))
    rw [dval_cons]; omega
theorem dec_small (u : Nat) (h : u < 10) : decDigits u = [UInt8.ofNat (48 + u)] := by rw [decDigits, dif_pos h]
theorem dec_big (u : Nat) (h : ¬ u < 10) : decDigits u = decDigits (u / 10) ++ [UInt8.ofNat (48 + u % 10)] := by rw [decDigits, dif_neg h]
theorem digit_nat (d : Nat) (h : d < 10) : (UInt8.ofNat (48 + d)).toNat = 48 + d := by simp; omega
theorem dec_dig (d : Nat) : ∀ u, u < 10 ^ (d + 1) → Dig (decDigits u) ∧ dval 0 (decDigits u) = u ∧ (decDigits u).length ≤ d + 1 ∧ 0 < (decDigits u).length := by
  induction d with
  | zero =>
    intro u h
    have h : u < 10 := by simpa using h
    rw [dec_small u h]
    refine ⟨?_, ?_, by simp, by simp⟩
    · intro c hc
      rw [List.mem_singleton.1 hc, digit_nat u h]; omega
    · rw [dval_cons, dval_nil, digit_nat u h]; omega
  | succ d ih =>
    intro u h
    by_cases h1 : u < 10
    · rw [dec_small u h1]
      refine ⟨?_, ?_, by simp, by simp⟩
      · intro c hc
        rw [List.mem_singleton.1 hc, digit_nat u h1]; omega
      · rw [dval_cons, dval_nil, digit_nat u h1]; omega
    · rw [Nat.pow_succ] at h
      obtain ⟨i1, i2, i3, i4⟩ := ih (u / 10) (by omega)
      have hm : u % 10 < 10 := Nat.mod_lt _ (by decide)
      rw [dec_big u h1]
      refine ⟨?_, ?_, by simp; omega, by simp⟩
      · intro c hc
        rcases List.mem_append.1 hc with hc | hc
        · exact i1 c hc
        · rw [List.mem_singleton.1 hc, digit_nat _ hm]; omega
      · rw [dval_snoc, i2, digit_nat _ hm]; omega
theorem parse_dig (M : Nat) (hM : M ≤ 18446744073709551615) : ∀ (L : List UInt8) (a : Nat), Dig L → dval a L ≤ M → parseUintM M a L = .ok (dval a L)
  | [], a, _, _ => rfl
  | c :: r, a, hd, h => by
    have h1 := hd c (by simp)
    have h2 := dval_le r (a * 10 + (c.toNat - 48))
    rw [dval_cons] at h ⊢
    rw [parseUintM, if_pos h1, if_neg (by omega), if_neg (by omega)]
    exact parse_dig M hM r _ (fun x hx => hd x (by simp [hx])) h
theorem itoa_parts (v : Int) (h0 : -9223372036854775808 ≤ v) (h1 : v ≤ 9223372036854775807) :
    (v < 0 ∧ itoa v = 45 :: decDigits v.natAbs ∧ v.natAbs ≤ 9223372036854775808) ∨ (0 ≤ v ∧ itoa v = decDigits v.toNat ∧ v.toNat ≤ 9223372036854775807) := by
  unfold itoa
  by_cases h : v < 0
  · exact .inl ⟨h, by rw [if_pos h], by omega⟩
  · exact .inr ⟨by omega, by rw [if_neg h], by omega⟩
theorem dig_of (u : Nat) (h : u ≤ 9223372036854775808) : Dig (decDigits u) ∧ dval 0 (decDigits u) = u ∧ (decDigits u).length ≤ 19 ∧ 0 < (decDigits u).length := dec_dig 18 u (Nat.lt_of_le_of_lt h (by decide))
theorem parse_itoa (v : Int) (h0 : -9223372036854775808 ≤ v) (h1 : v ≤ 9223372036854775807) : parseIntB 64 (itoa v) = .ok v := by
  rcases itoa_parts v h0 h1 with ⟨hn, e, hb⟩ | ⟨hn, e, hb⟩
  · obtain ⟨d1, d2, d3, d4⟩ := dig_of v.natAbs hb
    have hne : decDigits v.natAbs ≠ [] := fun e => by rw [e] at d4; simp at d4
    have hp := parse_dig 18446744073709551615 (Nat.le_refl _) (decDigits v.natAbs) 0 d1 (by rw [d2]; omega)
    rw [d2] at hp
    have hu : parseUintB 64 (decDigits v.natAbs) = .ok v.natAbs := by
      rw [parseUintB, if_neg hne]
      exact hp
    have c45 : (45 : UInt8).toNat = 45 := rfl
    rw [e, parseIntB]
    simp only [c45, or_true, if_true, hu]
    rw [if_neg (by simp), if_neg (by show ¬ (True ∧ 9223372036854775808 < v.natAbs); omega)]
    congr 1; omega
  · obtain ⟨d1, d2, d3, d4⟩ := dig_of v.toNat (by omega)
    have hp := parse_dig 18446744073709551615 (Nat.le_refl _) (decDigits v.toNat) 0 d1 (by rw [d2]; omega)
    rw [d2] at hp
    rw [e]
    cases hL : decDigits v.toNat with
    | nil => rw [hL] at d4; simp at d4
    | cons c r =>
      rw [hL] at d1 hp
      have hc := d1 c (by simp)
      have hu : parseUintB 64 (c :: r) = .ok v.toNat := by
        rw [parseUintB, if_neg (by simp)]
        exact hp
      have n45 : (c.toNat = 45) = False := eq_false (by omega)
      have n43 : (c.toNat = 43) = False := eq_false (by omega)
      rw [parseIntB]
      simp only [n45, n43, or_false, if_false, hu]
      rw [if_neg (by show ¬ (¬ False ∧ 9223372036854775808 ≤ v.toNat); omega), if_neg (by simp)]
      congr 1; omega
theorem int_dec (v : Int) (h0 : -9223372036854775808 ≤ v) (h1 : v ≤ 9223372036854775807) : int (dec v) = (v, true) := by
  unfold int dec
  have e : (⟨(itoa v).toArray⟩ : ByteArray).data.toList = itoa v := rfl
  rw [e, parse_itoa v h0 h1]
  simp
theorem dec_inj (a b : Int) (ha : -9223372036854775808 ≤ a ∧ a ≤ 9223372036854775807) (hb : -9223372036854775808 ≤ b ∧ b ≤ 9223372036854775807) (h : dec a = dec b) : a = b := by
  have h1 := int_dec a ha.1 ha.2
  rw [h, int_dec b hb.1 hb.2] at h1
  exact (congrArg Prod.fst h1).symm

/-! ### Rows -/
theorem u8_inj {a b : Nat} (ha : a < 256) (hb : b < 256) (h : UInt8.ofNat a = UInt8.ofNat b) : a = b := by
  have h2 := congrArg UInt8.toNat h
  simp at h2
  omega
theorem lenU_inj (a : Nat) : ∀ (b : Nat) (X Y : List UInt8), lenU a ++ X = lenU b ++ Y → a = b ∧ X = Y := by
  induction a using Nat.strongRecOn with
  | ind a ih =>
    intro b X Y h
    rw [lenU, lenU.eq_1 b] at h
    by_cases ha : a < 128
    · by_cases hb : b < 128
      · rw [if_pos ha, if_pos hb, List.cons_append, List.cons_append, List.nil_append, List.nil_append] at h
        injection h with h1 h2
        exact ⟨u8_inj (by omega) (by omega) h1, h2⟩
      · rw [if_pos ha, if_neg hb, List.cons_append, List.cons_append] at h
        injection h with h1 h2
        have := u8_inj (by omega) (by omega) h1
        omega
    · by_cases hb : b < 128
      · rw [if_neg ha, if_pos hb, List.cons_append, List.cons_append] at h
        injection h with h1 h2
        have := u8_inj (by omega) (by omega) h1
        omega
      · rw [if_neg ha, if_neg hb, List.cons_append, List.cons_append] at h
        injection h with h1 h2
        have h3 := u8_inj (by omega) (by omega) h1
        obtain ⟨h4, h5⟩ := ih (a / 128) (by omega) (b / 128) X Y h2
        exact ⟨by omega, h5⟩
theorem rowU_cons (s : ByteArray) (l : List ByteArray) : rowU (s :: l) = lenU s.size ++ (s.data.toList ++ rowU l) := by simp [rowU]
theorem rowU_inj : ∀ l m : List ByteArray, rowU l = rowU m → l = m
  | [], [], _ => rfl
  | [], s :: m, h => by
    have h1 := congrArg List.length h
    have h2 := lenU_pos s.size
    rw [rowU_cons, List.length_append] at h1
    simp only [rowU, List.flatMap_nil, List.length_nil] at h1
    omega
  | s :: l, [], h => by
    have h1 := congrArg List.length h
    have h2 := lenU_pos s.size
    rw [rowU_cons, List.length_append] at h1
    simp only [rowU, List.flatMap_nil, List.length_nil] at h1
    omega
  | s :: l, t :: m, h => by
    rw [rowU_cons, rowU_cons] at h
    obtain ⟨h1, h2⟩ := lenU_inj _ _ _ _ h
    have hs : s.data.toList.length = s.size := by simp
    have ht : t.data.toList.length = t.size := by simp
    obtain ⟨h3, h4⟩ := List.append_inj h2 (by rw [hs, ht, h1])
    rw [rowU_inj l m h4, ByteArray.ext (Array.toList_inj.1 h3)]
theorem bytes_inj {l m : List UInt8} (h : (⟨l.toArray⟩ : ByteArray) = ⟨m.toArray⟩) : l = m := by
  have h2 := congrArg (fun b : ByteArray => b.data.toList) h
  simpa using h2
theorem putU_inj (a b : Nat) (ha : a < 18446744073709551616) (hb : b < 18446744073709551616) (h : putU a 8 = putU b 8) : a = b := by
  have h1 := congrArg getU h
  rw [getU_putU, getU_putU] at h1
  have e : (256 : Nat) ^ 8 = 18446744073709551616 := by decide
  rw [e] at h1
  omega

/-! ### Digests -/
theorem hexI_one : ∀ a b : Fin 256, 0 ≤ Lib.indexByte hexT.data.toList (UInt8.ofNat a.val) → Lib.indexByte hexT.data.toList (UInt8.ofNat a.val) = Lib.indexByte hexT.data.toList (UInt8.ofNat b.val) → a = b := by decide +kernel
theorem hexI_inj (x y : Nat) (hx : x < 256) (hy : y < 256) (h0 : 0 ≤ hexI x) (h : hexI x = hexI y) : x = y := by
  have := hexI_one ⟨x, hx⟩ ⟨y, hy⟩ h0 h
  exact congrArg Fin.val this
theorem sign_lt (s : ByteArray) (j : Nat) : g (bytes s) j < 256 := by
  unfold g
  rw [List.getD_eq_getElem?_getD]
  cases h : (bytes s)[j]? with
  | none => simp
  | some x => exact bytes_lt s x (List.mem_of_getElem? h)
theorem bytes_eq (s t : ByteArray) (h : bytes s = bytes t) : s = t := by
  refine ByteArray.ext (Array.toList_inj.1 ?_)
  refine List.map_inj_right (f := UInt8.toNat) (fun x y h => UInt8.toNat_inj.1 h) |>.1 h
theorem dgU_inj (s t : ByteArray) (j : Nat) (hs : goodB (bytes s) j = true) (ht : goodB (bytes t) j = true) (h : dgU (bytes s) j = dgU (bytes t) j) : g (bytes s) (2 * j) = g (bytes t) (2 * j) ∧ g (bytes s) (2 * j + 1) = g (bytes t) (2 * j + 1) := by
  unfold goodB at hs ht
  rw [Bool.and_eq_true, decide_eq_true_eq, decide_eq_true_eq] at hs ht
  have a1 := sign_lt s (2 * j)
  have a2 := sign_lt s (2 * j + 1)
  have b1 := sign_lt t (2 * j)
  have b2 := sign_lt t (2 * j + 1)
  have r1 := hexI_range (g (bytes s) (2 * j))
  have r2 := hexI_range (g (bytes s) (2 * j + 1))
  have r3 := hexI_range (g (bytes t) (2 * j))
  have r4 := hexI_range (g (bytes t) (2 * j + 1))
  have h2 := u8_inj (by omega) (by omega) h
  exact ⟨hexI_inj _ _ a1 b1 hs.1 (by omega), hexI_inj _ _ a2 b2 hs.2 (by omega)⟩
theorem ofD_inj (s t : ByteArray) (hs : ofOk s = true) (ht : ofOk t = true) (h : ofD s = ofD t) : s = t := by
  rw [ofD, ofD, if_pos hs, if_pos ht] at h
  unfold ofOk at hs ht
  rw [Bool.and_eq_true, beq_iff_eq, List.all_eq_true] at hs ht
  have hj : ∀ j, j < 32 → g (bytes s) (2 * j) = g (bytes t) (2 * j) ∧ g (bytes s) (2 * j + 1) = g (bytes t) (2 * j + 1) := fun j hj => by
    refine dgU_inj s t j (hs.2 j (List.mem_range.2 hj)) (ht.2 j (List.mem_range.2 hj)) ?_
    have h2 := congrArg (fun l : List UInt8 => l[j]?) h
    simpa [dgs, hj] using h2
  refine bytes_eq s t (List.ext_getElem (by rw [bytes_len, bytes_len, hs.1, ht.1]) fun i h1 h2 => ?_)
  rw [bytes_len, hs.1] at h1
  have hg : g (bytes s) i = g (bytes t) i := by
    rcases Nat.mod_two_eq_zero_or_one i with e | e
    · have := (hj (i / 2) (by omega)).1
      rwa [show 2 * (i / 2) = i by omega] at this
    · have := (hj (i / 2) (by omega)).2
      rwa [show 2 * (i / 2) + 1 = i by omega] at this
  unfold g at hg
  rw [List.getD_eq_getElem?_getD, List.getD_eq_getElem?_getD, List.getElem?_eq_getElem (by rw [bytes_len, hs.1]; exact h1), List.getElem?_eq_getElem h2] at hg
  exact hg
theorem digs_inj : ∀ l m : List ByteArray, (∀ x ∈ l, ofOk x = true) → (∀ x ∈ m, ofOk x = true) → l.flatMap ofD = m.flatMap ofD → l = m
  | [], [], _, _, _ => rfl
  | [], t :: m, _, _, h => by
    have := congrArg List.length h
    rw [flat_len, flat_len] at this
    simp at this
  | s :: l, [], _, _, h => by
    have := congrArg List.length h
    rw [flat_len, flat_len] at this
    simp at this
  | s :: l, t :: m, hl, hm, h => by
    rw [List.flatMap_cons, List.flatMap_cons] at h
    obtain ⟨h3, h4⟩ := List.append_inj h (by rw [ofD_len, ofD_len])
    rw [ofD_inj s t (hl s (by simp)) (hm t (by simp)) h3, digs_inj l m (fun x hx => hl x (by simp [hx])) (fun x hx => hm x (by simp [hx])) h4]
end Go.Proofs.YtokcmaehojljdaaDoor
