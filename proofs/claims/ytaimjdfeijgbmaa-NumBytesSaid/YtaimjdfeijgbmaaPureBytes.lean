/- What the law NumBytes computes is true: numbers as bytes, and bytes as numbers. -/
import Derived.Test.YtaimjdfeijgbmaaAlive
import Derived.Test.YtaimjdfeijgbmaaWBytes
import Derived.Laws.BitsAllLaws
namespace Go.Proofs.Ytaimjdfeijgbmaa
open Go.RowKit Go.Proofs.YtaimjdfeijgbmaaW.PrintWords Go.Proofs.YtaimjdfeijgbmaaW.PrintLast Go.Proofs.YtaimjdfeijgbmaaW.PrintMore

/-- The lowest z bytes of a number. -/
def putU (n z : Nat) : List UInt8 := (List.range z).map fun i => UInt8.ofNat (n / 256 ^ i % 256)
theorem putU_next (n z : Nat) : putU n (z + 1) = putU n z ++ [UInt8.ofNat (n / 256 ^ z % 256)] := by simp [putU, List.range_succ]
theorem putU_len (n z : Nat) : (putU n z).length = z := by simp [putU]
theorem putU_front (n z : Nat) : putU n (z + 1) = UInt8.ofNat (n % 256) :: putU (n / 256) z := by
  unfold putU
  rw [List.range_succ_eq_map, List.map_cons, List.map_map, Nat.pow_zero, Nat.div_one]
  congr 1
  refine List.map_congr_left fun i _ => ?_
  show UInt8.ofNat (n / 256 ^ (i + 1) % 256) = UInt8.ofNat (n / 256 / 256 ^ i % 256)
  rw [Nat.div_div_eq_div_mul, Nat.pow_succ, Nat.mul_comm]
/-- The number of bytes, the lowest first. -/
def getU : List UInt8 → Nat
  | [] => 0
  | c :: t => c.toNat + 256 * getU t
theorem getU_lt : ∀ L : List UInt8, getU L < 256 ^ L.length
  | [] => by simp [getU]
  | c :: t => by
    have := getU_lt t
    have hc := c.toNat_lt
    rw [getU, List.length_cons, Nat.pow_succ]
    omega
theorem getU_snoc : ∀ (L : List UInt8) (c : UInt8), getU (L ++ [c]) = getU L + c.toNat * 256 ^ L.length
  | [], c => by simp [getU]
  | d :: t, c => by
    have := getU_snoc t c
    rw [List.cons_append, getU, this, getU, List.length_cons, Nat.pow_succ, Nat.mul_add, ← Nat.mul_assoc, ← Nat.mul_assoc, Nat.mul_comm 256 c.toNat, Nat.mul_assoc c.toNat 256, Nat.mul_comm 256 (256 ^ t.length), Nat.mul_assoc, Nat.add_assoc]
theorem getU_putU : ∀ (z n : Nat), getU (putU n z) = n % 256 ^ z
  | 0, n => by simp [putU, getU, Nat.mod_one]
  | z + 1, n => by
    have e : (UInt8.ofNat (n % 256)).toNat = n % 256 := by simp
    rw [putU_front, getU, getU_putU z, e, Nat.pow_succ, Nat.mul_comm (256 ^ z), Nat.mod_mul]
theorem putU_getU : ∀ L : List UInt8, putU (getU L) L.length = L
  | [] => rfl
  | c :: t => by
    have hc := c.toNat_lt
    have e1 : (c.toNat + 256 * getU t) % 256 = c.toNat := by omega
    have e2 : (c.toNat + 256 * getU t) / 256 = getU t := by omega
    rw [getU, List.length_cons, putU_front, e1, e2, putU_getU t]
    simp

/-! ### The program's Put -/
def putI (n i z : Nat) : List Int := ((List.range i).map fun j => ((n / 256 ^ j % 256 : Nat) : Int)) ++ List.replicate (z - i) 0
theorem putI_len (n i z : Nat) (h : i ≤ z) : (putI n i z).length = z := by simp [putI]; omega
theorem putI_set (n i z : Nat) (h : i < z) : (putI n i z).set i ((n / 256 ^ i % 256 : Nat) : Int) = putI n (i + 1) z := by
  obtain ⟨m, hm⟩ : ∃ m, z - i = m + 1 := ⟨z - i - 1, by omega⟩
  unfold putI
  rw [hm, List.replicate_succ, List.set_append_right _ _ (by simp), List.range_succ, List.map_append]
  have : z - (i + 1) = m := by omega
  rw [this]
  simp
theorem shr_byte (n i : Nat) (hi : i < 8) : shr .u64 (n : Int) ((8 * i : Nat) : Int) % 256 = ((n / 256 ^ i % 256 : Nat) : Int) := by
  unfold shr
  have e1 : min ((8 * i : Nat) : Int).toNat IntKind.u64.bits = 8 * i := by
    rw [Int.toNat_natCast]; exact Nat.min_eq_left (by show 8 * i ≤ 64; omega)
  rw [e1]
  have e2 : (2 : Int) ^ (8 * i) = ((256 ^ i : Nat) : Int) := by
    rw [Int.natCast_pow, Int.pow_mul]; rfl
  rw [e2]
  rfl
theorem put_loop (n z : Nat) (hz : z ≤ 8) (d : Nat) : ∀ (i k : Nat), i + d = z → d < k → PNum.num_Put.l0 k n (putI n i z) (z : Int) i = some ⟨(putU n z).toArray⟩ := by
  induction d with
  | zero =>
    intro i k hi hk
    obtain ⟨k, rfl⟩ : ∃ m, k = m + 1 := ⟨k - 1, by omega⟩
    obtain rfl : i = z := by omega
    rw [PNum.num_Put.l0, if_neg (by omega)]
    unfold putI putU strOfNums
    rw [Nat.sub_self, List.replicate_zero, List.append_nil, List.map_map]
    congr 3
  | succ d ih =>
    intro i k hi hk
    obtain ⟨k, rfl⟩ : ∃ m, k = m + 1 := ⟨k - 1, by omega⟩
    have w1 : wrap64 (8 * (i : Int)) = ((8 * i : Nat) : Int) := wrap_nat _ _ (by omega) (by omega)
    have w2 : wrap64 ((i : Int) + 1) = ((i + 1 : Nat) : Int) := wrap_nat _ _ rfl (by clear w1; omega)
    rw [PNum.num_Put.l0, w1, w2]
    clear w1 w2
    rw [if_pos (by omega), if_pos (by omega), if_pos (by omega), if_pos (by rw [putI_len n i z (by omega)]; omega), shr_byte n i (by omega), Int.toNat_natCast, putI_set n i z (by omega)]
    exact ih (i + 1) k (by omega) (by omega)
theorem put_f (n : Nat) (a1 : Int) (z : Nat) (hz : mn (mx a1 0) 8 = z) (hz8 : z ≤ 8) (k : Nat) (hk : 8 < k) : PNum.num_Put.f k n a1 = some ⟨(putU n z).toArray⟩ := by
  unfold PNum.num_Put.f
  rw [hz, if_pos (by omega), if_pos (by rw [Int.toNat_natCast]; omega), Int.toNat_natCast]
  simp only [Option.bind_some, List.length_replicate]
  have h := put_loop n z hz8 z 0 k (by omega) (by omega)
  have e : putI n 0 z = List.replicate z 0 := by simp [putI]
  rw [e] at h
  exact h
/-! ### The reference's Put -/
theorem ref_put_loop (n : Nat) (hn : n < 18446744073709551616) (a1 : Int) (z : Nat) (hz : mn (mx a1 0) 8 = z) (hz8 : z ≤ 8) (d : Nat) : ∀ (i k : Nat), i + d = z → d < k →
    PNum.hibernacleref01_Put.l0 k ((n / 256 ^ i : Nat) : Int) a1 ⟨(putU n i).toArray⟩ i = some ⟨(putU n z).toArray⟩ := by
  induction d with
  | zero =>
    intro i k hi hk
    obtain ⟨k, rfl⟩ : ∃ m, k = m + 1 := ⟨k - 1, by omega⟩
    obtain rfl : i = z := by omega
    rw [PNum.hibernacleref01_Put.l0]
    by_cases h1 : (i : Int) < a1
    · rw [if_pos h1, if_neg (by unfold mn mx at hz; split at hz <;> split at hz <;> omega)]
    · rw [if_neg h1]
  | succ d ih =>
    intro i k hi hk
    obtain ⟨k, rfl⟩ : ∃ m, k = m + 1 := ⟨k - 1, by omega⟩
    have h1 : (i : Int) < a1 := by unfold mn mx at hz; split at hz <;> split at hz <;> omega
    have hle : n / 256 ^ i ≤ n := Nat.div_le_self _ _
    have e1 : Int.tmod ((n / 256 ^ i : Nat) : Int) 256 = ((n / 256 ^ i % 256 : Nat) : Int) := by rw [Int.tmod_eq_emod_of_nonneg (Int.natCast_nonneg _)]; rfl
    have e2 : Int.tdiv ((n / 256 ^ i : Nat) : Int) 256 = ((n / 256 ^ (i + 1) : Nat) : Int) := by
      rw [Int.tdiv_eq_ediv_of_nonneg (Int.natCast_nonneg _), Nat.pow_succ, ← Nat.div_div_eq_div_mul]; rfl
    have hle2 : n / 256 ^ (i + 1) ≤ n := Nat.div_le_self _ _
    have e3 : IntKind.u64.wrap ((n / 256 ^ (i + 1) : Nat) : Int) = ((n / 256 ^ (i + 1) : Nat) : Int) := by
      generalize n / 256 ^ (i + 1) = q at *
      exact IntWalk.u64_in _ (by omega)
    have w2 : wrap64 ((i : Int) + 1) = ((i + 1 : Nat) : Int) := wrap_nat _ _ rfl (by omega)
    rw [PNum.hibernacleref01_Put.l0, e1, e2, e3, w2]
    clear e1 e2 e3 w2
    rw [if_pos h1, if_pos (by omega)]
    simp only [Option.bind_some]
    rw [nums_one _ (n / 256 ^ i % 256) rfl (Nat.mod_lt _ (by decide)), bytes_size, bytes_size, putU_len, if_pos (by rw [List.length_singleton]; omega), bytes_app, ← putU_next]
    exact ih (i + 1) k (by omega) (by omega)
theorem ref_put_f (n : Nat) (hn : n < 18446744073709551616) (a1 : Int) (z : Nat) (hz : mn (mx a1 0) 8 = z) (hz8 : z ≤ 8) (k : Nat) (hk : 8 < k) : PNum.hibernacleref01_Put.f k n a1 = some ⟨(putU n z).toArray⟩ := by
  have h := ref_put_loop n hn a1 z hz hz8 z 0 k (by omega) (by omega)
  rw [Nat.pow_zero, Nat.div_one] at h
  exact h
/-! ### Get -/
theorem bt_at_list (s : ByteArray) (i : Nat) (c : UInt8) (h : s.data.toList[i]? = some c) : bt s (i : Int) = c.toNat := by
  have := drop_at s.data.toList i c h
  exact (bt_list s i c _ this).1
theorem or_sum (a b i : Nat) (ha : a < 256 ^ i) (hi : i < 8) (hb : b < 256) : Go.bits .or .u64 (a : Int) (shl .u64 (b : Int) ((8 * i : Nat) : Int)) = ((a + b * 256 ^ i : Nat) : Int) := by
  have hp : (256 : Nat) ^ i * 256 ≤ 18446744073709551616 := by
    have : (256 : Nat) ^ (i + 1) ≤ 256 ^ 8 := Nat.pow_le_pow_right (by decide) (by omega)
    rw [Nat.pow_succ] at this
    simpa using this
  have e0 : shl .u64 (b : Int) ((8 * i : Nat) : Int) = ((b * 256 ^ i : Nat) : Int) := by
    unfold shl
    have e1 : min ((8 * i : Nat) : Int).toNat IntKind.u64.bits = 8 * i := by
      rw [Int.toNat_natCast]; exact Nat.min_eq_left (by show 8 * i ≤ 64; omega)
    rw [e1]
    have e2 : ((b : Int) * 2 ^ (8 * i)) = ((b * 256 ^ i : Nat) : Int) := by
      rw [Int.natCast_mul, Int.natCast_pow, Int.pow_mul]; rfl
    rw [e2]
    have h2 : b * 256 ^ i ≤ 255 * 256 ^ i := Nat.mul_le_mul_right _ (by omega)
    generalize b * 256 ^ i = x at *
    generalize (256 : Nat) ^ i = p at *
    exact IntWalk.u64_in _ (by omega)
  rw [e0]
  have e3 : a + b * 256 ^ i = a ||| b * 256 ^ i := by
    have h := Nat.two_pow_add_eq_or_of_lt (i := 8 * i) (b := a) (by rw [Nat.pow_mul]; exact ha) b
    rw [Nat.pow_mul] at h
    have h' : (2 ^ 8) ^ i = (256 : Nat) ^ i := rfl
    rw [h', Nat.mul_comm] at h
    rw [Nat.add_comm, h, Nat.or_comm]
  have h2 : b * 256 ^ i ≤ 255 * 256 ^ i := Nat.mul_le_mul_right _ (by omega)
  rw [e3]
  generalize b * 256 ^ i = x at *
  generalize (256 : Nat) ^ i = p at *
  exact u64_or_nat a x (by omega) (by omega)
theorem get_loop (s : ByteArray) (z : Nat) (hz : z ≤ 8) (hs : z ≤ s.size) (d : Nat) : ∀ (i k : Nat), i + d = z → d < k →
    PNum.num_Get.l0 k s ((getU (s.data.toList.take i) : Nat) : Int) (z : Int) i = some ((getU (s.data.toList.take z) : Nat) : Int) := by
  induction d with
  | zero =>
    intro i k hi hk
    obtain ⟨k, rfl⟩ : ∃ m, k = m + 1 := ⟨k - 1, by omega⟩
    obtain rfl : i = z := by omega
    rw [PNum.num_Get.l0, if_neg (by omega)]
  | succ d ih =>
    intro i k hi hk
    obtain ⟨k, rfl⟩ : ∃ m, k = m + 1 := ⟨k - 1, by omega⟩
    have hlt : i < s.data.toList.length := by simp; omega
    have hsi : s.data.toList[i]? = some s.data.toList[i] := List.getElem?_eq_getElem hlt
    generalize s.data.toList[i] = c at *
    have hc := c.toNat_lt
    have ht : s.data.toList.take (i + 1) = s.data.toList.take i ++ [c] := by rw [List.take_add_one, hsi]; rfl
    have hl : (s.data.toList.take i).length = i := by rw [List.length_take]; omega
    have hg := getU_lt (s.data.toList.take i)
    rw [hl] at hg
    have w1 : wrap64 (8 * (i : Int)) = ((8 * i : Nat) : Int) := wrap_nat _ _ (by clear hg; omega) (by clear hg; omega)
    have w2 : wrap64 ((i : Int) + 1) = ((i + 1 : Nat) : Int) := wrap_nat _ _ rfl (by clear w1 hg; omega)
    have w3 : IntKind.u64.wrap ((c.toNat : Nat) : Int) = ((c.toNat : Nat) : Int) := IntWalk.u64_in _ (by clear w1 w2 hg; omega)
    rw [PNum.num_Get.l0, w1, w2, bt_at_list s i c hsi, w3, or_sum _ _ i hg (by clear w1 w2 w3 hg; omega) hc]
    clear w1 w2 w3
    have z1 := ih (i + 1) k (by clear hg; omega) (by clear hg; omega)
    rw [ht, getU_snoc, hl] at z1
    clear hg
    rw [if_pos (by omega), if_pos (by omega), if_pos (by omega), if_pos (by omega)]
    exact z1
theorem get_f (s : ByteArray) (hs : s.size ≤ 140737488351232) (k : Nat) (hk : 8 < k) : PNum.num_Get.f k s = some ((getU (s.data.toList.take 8) : Nat) : Int) := by
  unfold PNum.num_Get.f
  have e : mn (s.size : Int) 8 = ((min s.size 8 : Nat) : Int) := by unfold mn; split <;> omega
  rw [e]
  have h := get_loop s (min s.size 8) (by omega) (by omega) (min s.size 8) 0 k (by omega) (by omega)
  have e2 : s.data.toList.take (min s.size 8) = s.data.toList.take 8 := by
    by_cases hh : s.size ≤ 8
    · rw [Nat.min_eq_left hh, List.take_of_length_le (by simp), List.take_of_length_le (by simp; exact hh)]
    · rw [Nat.min_eq_right (by omega)]
  rw [e2] at h
  exact h
theorem ref_get_loop (s : ByteArray) (hs : s.size ≤ 140737488351232) (i : Nat) : ∀ k : Nat, i ≤ s.size → i < k →
    PNum.hibernacleref01_Get.l0 k s ((getU ((s.data.toList.take 8).drop i) : Nat) : Int) ((i : Int) - 1) = some ((getU (s.data.toList.take 8) : Nat) : Int) := by
  induction i with
  | zero =>
    intro k hi hk
    obtain ⟨k, rfl⟩ : ∃ m, k = m + 1 := ⟨k - 1, by omega⟩
    rw [PNum.hibernacleref01_Get.l0, if_neg (by omega), List.drop_zero]
  | succ i ih =>
    intro k hi hk
    obtain ⟨k, rfl⟩ : ∃ m, k = m + 1 := ⟨k - 1, by omega⟩
    have hlt : i < s.data.toList.length := by simp; omega
    have hsi : s.data.toList[i]? = some s.data.toList[i] := List.getElem?_eq_getElem hlt
    generalize s.data.toList[i] = c at *
    have hc := c.toNat_lt
    have ei : ((i + 1 : Nat) : Int) - 1 = (i : Int) := by omega
    have w1 : wrap64 ((i : Int) - 1) = (i : Int) - 1 := by
      have h : (-9223372036854775808 : Int) ≤ (i : Int) - 1 ∧ (i : Int) - 1 < 9223372036854775808 := by omega
      generalize (i : Int) - 1 = x at *
      unfold wrap64; omega
    rw [PNum.hibernacleref01_Get.l0, ei, w1, bt_at_list s i c hsi]
    clear w1 ei
    rw [if_pos (by omega)]
    have z1 := ih k (by omega) (by omega)
    by_cases h8 : i < 8
    · have hsi8 : (s.data.toList.take 8)[i]? = some c := by rw [List.getElem?_take, if_pos h8]; exact hsi
      have hd := drop_at _ _ _ hsi8
      have hg := getU_lt ((s.data.toList.take 8).drop (i + 1))
      have hl : ((s.data.toList.take 8).drop (i + 1)).length ≤ 7 := by rw [List.length_drop, List.length_take]; omega
      have hp : (256 : Nat) ^ ((s.data.toList.take 8).drop (i + 1)).length ≤ 256 ^ 7 := Nat.pow_le_pow_right (by decide) hl
      have hg2 : getU ((s.data.toList.take 8).drop (i + 1)) < 72057594037927936 := Nat.lt_of_lt_of_le hg hp
      clear hg hp hl
      rw [hd, getU] at z1
      generalize getU ((s.data.toList.take 8).drop (i + 1)) = x at *
      have w2 : IntKind.u64.wrap ((x : Int) * 256) = (x : Int) * 256 := IntWalk.u64_in _ (by omega)
      have w3 : IntKind.u64.wrap ((c.toNat : Nat) : Int) = ((c.toNat : Nat) : Int) := IntWalk.u64_in _ (by clear w2; omega)
      have w4 : IntKind.u64.wrap ((x : Int) * 256 + ((c.toNat : Nat) : Int)) = ((c.toNat + 256 * x : Nat) : Int) := (IntWalk.u64_in _ (by clear w2 w3; omega)).trans (by clear w2 w3; omega)
      rw [w2, w3, w4]
      clear w2 w3 w4
      rw [if_pos (by omega), if_pos (by omega), if_pos (by omega)]
      exact z1
    · have h0 : (s.data.toList.take 8).drop (i + 1) = [] := by rw [List.drop_eq_nil_iff, List.length_take]; omega
      have h1 : (s.data.toList.take 8).drop i = [] := by rw [List.drop_eq_nil_iff, List.length_take]; omega
      rw [if_neg (by omega), h0]
      rw [h1] at z1
      exact z1
theorem ref_get_f (s : ByteArray) (hs : s.size ≤ 140737488351232) (k : Nat) (hk : s.size < k) : PNum.hibernacleref01_Get.f k s = some ((getU (s.data.toList.take 8) : Nat) : Int) := by
  unfold PNum.hibernacleref01_Get.f
  have w1 : wrap64 ((s.size : Int) - 1) = (s.size : Int) - 1 := by
    have h : (-9223372036854775808 : Int) ≤ (s.size : Int) - 1 ∧ (s.size : Int) - 1 < 9223372036854775808 := by omega
    generalize (s.size : Int) - 1 = x at *
    unfold wrap64; omega
  rw [w1]
  have h := ref_get_loop s hs s.size k (Nat.le_refl _) hk
  have e : (s.data.toList.take 8).drop s.size = [] := by rw [List.drop_eq_nil_iff, List.length_take]; simp; omega
  rw [e] at h
  exact h
/-! ### There and back, and the walk -/
theorem numBytes_walk (n : Nat) (hn : n < 18446744073709551616) (a1 : Int) (s : ByteArray) (hs : s.size ≤ 100) (w : World) :
    Calls Try.prog 7 #[.int .u64 n, .int .i64 a1, .string s] w fun e w' => e = .returned (.bool true) ∧ Below w.heap.size w w' := by
  obtain ⟨z, hz, hz8⟩ : ∃ z : Nat, mn (mx a1 0) 8 = z ∧ z ≤ 8 := by
    refine ⟨(mn (mx a1 0) 8).toNat, ?_, ?_⟩ <;> unfold mn mx <;> split <;> split <;> omega
  have h8 : mn (mx (8 : Int) 0) 8 = ((8 : Nat) : Int) := by decide
  have e8 : (⟨(putU n 8).toArray⟩ : ByteArray).data.toList = putU n 8 := rfl
  refine bytes_walk 200 n a1 (getU (s.data.toList.take 8) : Nat) s ⟨(putU n z).toArray⟩ ⟨(putU n 8).toArray⟩ w (alive_f 200 (by omega)) hs (put_f n a1 z hz hz8 200 (by omega)) (ref_put_f n hn a1 z hz hz8 200 (by omega))
    (get_f s (by omega) 200 (by omega)) (ref_get_f s (by omega) 200 (by omega)) (put_f n 8 8 h8 (by omega) 200 (by omega)) ?_ ?_ ?_
  · rw [get_f _ (by rw [bytes_size, putU_len]; omega) 200 (by omega), e8, List.take_of_length_le (by rw [putU_len]; omega), getU_putU, Nat.mod_eq_of_lt (Nat.lt_of_lt_of_le hn (by decide))]
  · rw [bytes_size, putU_len]
  · intro h
    have hm : mn (mx (s.size : Int) 0) 8 = (s.size : Int) := by unfold mn mx; split <;> split <;> omega
    have e : s.data.toList.take 8 = s.data.toList := List.take_of_length_le (by simp; omega)
    have e2 : s.data.toList.length = s.size := by simp
    rw [put_f _ _ s.size hm h 200 (by omega), e, ← e2, putU_getU]
theorem numBytes_all (n : Nat) (hn : n < 18446744073709551616) (a1 : Int) (s : ByteArray) (w : World) :
    Calls Try.prog 7 #[.int .u64 n, .int .i64 a1, .string s] w fun e w' => e = .returned (.bool true) ∧ Below w.heap.size w w' := by
  by_cases h : s.size ≤ 100
  · exact numBytes_walk n hn a1 s h w
  · exact bytes_walk_long 200 n a1 s w (alive_f 200 (by omega)) (by omega)
end Go.Proofs.Ytaimjdfeijgbmaa
