/- num.Put, in plain words. -/
import Derived.Test.YtokcmaehojljdaaDoorRow
import Derived.Test.YtokcmaehojljdaaDoorPNum1
import Derived.Test.YtokcmaehojljdaaDoorDec
namespace Go.Proofs.YtokcmaehojljdaaDoor
open Go.RowKit Go.Proofs.YtokcmaehojljdaaDoorW.PrintWords Go.Proofs.YtokcmaehojljdaaDoorW.PrintLast Go.Proofs.YtokcmaehojljdaaDoorW.PrintMore

theorem wrap_nat (x : Int) (n : Nat) (h : x = n) (hn : n ≤ 9223372036854775807) : wrap64 x = n := by subst h; unfold wrap64; omega
theorem bytes_app (l m : List UInt8) : (⟨l.toArray⟩ : ByteArray) ++ ⟨m.toArray⟩ = ⟨(l ++ m).toArray⟩ := by
  apply ByteArray.ext
  simp [ByteArray.data_append]
theorem bytes_size (l : List UInt8) : (⟨l.toArray⟩ : ByteArray).size = l.length := by simp [ByteArray.size]
theorem toList_inj (s t : ByteArray) : s.toList = t.toList ↔ s = t := by
  rw [ByteArray.toList_eq, ByteArray.toList_eq]
  exact ⟨fun h => ByteArray.ext (Array.toList_inj.1 h), fun h => by rw [h]⟩
/-- The lowest z bytes of a number. -/
def putU (n z : Nat) : List UInt8 := (List.range z).map fun i => UInt8.ofNat (n / 256 ^ i % 256)
theorem putU_next (n z : Nat) : putU n (z + 1) = putU n z ++ [UInt8.ofNat (n / 256 ^ z % 256)] := by simp [putU, List.range_succ]
theorem putU_len (n z : Nat) : (putU n z).length = z := by simp [putU]
theorem putU_front (n z : Nat) : putU n (z + 1) = UInt8.ofNat (n % 256) :: putU (n / 256) z := by
  unfold putU
  rw [List.range_succ_eq_map, List.map_cons, List.map_map, Nat.pow_zero, Nat.div_one]
  congr 1
  refine List.map_congr_left fun i _ => ?_
  show UInt8.ofNat (n / 256 ^ (i + 1) % 256) = UInt8.ofNat (n / 256 / 256 ^ i % 256)
  rw [Nat.div_div_eq_div_mul, Nat.pow_succ, Nat.mul_comm]
/-- The number of bytes, the lowest first. -/
def getU : List UInt8 → Nat
  | [] => 0
  | c :: t => c.toNat + 256 * getU t
theorem getU_lt : ∀ L : List UInt8, getU L < 256 ^ L.length
  | [] => by simp [getU]
  | c :: t => by
    have := getU_lt t
    have hc := c.toNat_lt
    rw [getU, List.length_cons, Nat.pow_succ]
    omega
theorem getU_snoc : ∀ (L : List UInt8) (c : UInt8), getU (L ++ [c]) = getU L + c.toNat * 256 ^ L.length
  | [], c => by simp [getU]
  | d :: t, c => by
    have := getU_snoc t c
    rw [List.cons_append, getU, this, getU, List.length_cons, Nat.pow_succ, Nat.mul_add, ← Nat.mul_assoc, ← Nat.mul_assoc, Nat.mul_comm 256 c.toNat, Nat.mul_assoc c.toNat 256, Nat.mul_comm 256 (256 ^ t.length), Nat.mul_assoc, Nat.add_assoc]
theorem getU_putU : ∀ (z n : Nat), getU (putU n z) = n % 256 ^ z
  | 0, n => by simp [putU, getU, Nat.mod_one]
  | z + 1, n => by
    have e : (UInt8.ofNat (n % 256)).toNat = n % 256 := by simp
    rw [putU_front, getU, getU_putU z, e, Nat.pow_succ, Nat.mul_comm (256 ^ z), Nat.mod_mul]
theorem putU_getU : ∀ L : List UInt8, putU (getU L) L.length = L
  | [] => rfl
  | c :: t => by
    have hc := c.toNat_lt
    have e1 : (c.toNat + 256 * getU t) % 256 = c.toNat := by omega
    have e2 : (c.toNat + 256 * getU t) / 256 = getU t := by omega
    rw [getU, List.length_cons, putU_front, e1, e2, putU_getU t]
    simp

/-! ### The program's Put -/
def putI (n i z : Nat) : List Int := ((List.range i).map fun j => ((n / 256 ^ j % 256 : Nat) : Int)) ++ List.replicate (z - i) 0
theorem putI_len (n i z : Nat) (h : i ≤ z) : (putI n i z).length = z := by simp [putI]; omega
theorem putI_set (n i z : Nat) (h : i < z) : (putI n i z).set i ((n / 256 ^ i % 256 : Nat) : Int) = putI n (i + 1) z := by
  obtain ⟨m, hm⟩ : ∃ m, z - i = m + 1 := ⟨z - i - 1, by omega⟩
  unfold putI
  rw [hm, List.replicate_succ, List.set_append_right _ _ (by simp), List.range_succ, List.map_append]
  have : z - (i + 1) = m := by omega
  rw [this]
  simp
theorem shr_byte (n i : Nat) (hi : i < 8) : shr .u64 (n : Int) ((8 * i : Nat) : Int) % 256 = ((n / 256 ^ i % 256 : Nat) : Int) := by
  unfold shr
  have e1 : min ((8 * i : Nat) : Int).toNat IntKind.u64.bits = 8 * i := by
    rw [Int.toNat_natCast]; exact Nat.min_eq_left (by show 8 * i ≤ 64; omega)
  rw [e1]
  have e2 : (2 : Int) ^ (8 * i) = ((256 ^ i : Nat) : Int) := by
    rw [Int.natCast_pow, Int.pow_mul]; rfl
  rw [e2]
  rfl
theorem put_loop (n z : Nat) (hz : z ≤ 8) (d : Nat) : ∀ (i k : Nat), i + d = z → d < k → PWire.num_Put.l0 k n (putI n i z) (z : Int) i = some ⟨(putU n z).toArray⟩ := by
  induction d with
  | zero =>
    intro i k hi hk
    obtain ⟨k, rfl⟩ : ∃ m, k = m + 1 := ⟨k - 1, by omega⟩
    obtain rfl : i = z := by omega
    rw [PWire.num_Put.l0, if_neg (by omega)]
    unfold putI putU strOfNums
    rw [Nat.sub_self, List.replicate_zero, List.append_nil, List.map_map]
    congr 3
  | succ d ih =>
    intro i k hi hk
    obtain ⟨k, rfl⟩ : ∃ m, k = m + 1 := ⟨k - 1, by omega⟩
    have w1 : wrap64 (8 * (i : Int)) = ((8 * i : Nat) : Int) := wrap_nat _ _ (by omega) (by omega)
    have w2 : wrap64 ((i : Int) + 1) = ((i + 1 : Nat) : Int) := wrap_nat _ _ rfl (by clear w1; omega)
    rw [PWire.num_Put.l0, w1, w2]
    clear w1 w2
    rw [if_pos (by omega), if_pos (by omega), if_pos (by omega), if_pos (by rw [putI_len n i z (by omega)]; omega), shr_byte n i (by omega), Int.toNat_natCast, putI_set n i z (by omega)]
    exact ih (i + 1) k (by omega) (by omega)
theorem put_f (n : Nat) (a1 : Int) (z : Nat) (hz : mn (mx a1 0) 8 = z) (hz8 : z ≤ 8) (k : Nat) (hk : 8 < k) : PWire.num_Put.f k n a1 = some ⟨(putU n z).toArray⟩ := by
  unfold PWire.num_Put.f
  rw [hz, if_pos (by omega), if_pos (by rw [Int.toNat_natCast]; omega), Int.toNat_natCast]
  simp only [Option.bind_some, List.length_replicate]
  have h := put_loop n z hz8 z 0 k (by omega) (by omega)
  have e : putI n 0 z = List.replicate z 0 := by simp [putI]
  rw [e] at h
  exact h
set_option maxRecDepth 100000 in
theorem dec39_any (n : Int) (h0 : -9223372036854775808 ≤ n) (h1 : n ≤ 9223372036854775807) (w : World) (h : Laid w) : Calls Tryd.prog 39 #[.int .i64 n] w fun e w' => e = .returned (.string (dec n)) ∧ Below w.heap.size w w' := by
  go_enter Tryd.func39, Tryd.ntmps39
  go_wp2_with fail
  refine (dec_any n h0 h1 _ h).mono ?_
  rintro e w' ⟨rfl, hb⟩
  go_wp2_with fail
  go_ret
  exact ⟨rfl, hb⟩
set_option maxRecDepth 100000 in
theorem dec40_any (n : Int) (h0 : -9223372036854775808 ≤ n) (h1 : n ≤ 9223372036854775807) (w : World) (h : Laid w) : Calls Tryd.prog 40 #[.int .i64 n] w fun e w' => e = .returned (.string (dec n)) ∧ Below w.heap.size w w' := by
  go_enter Tryd.func40, Tryd.ntmps40
  go_wp2_with fail
  refine (dec_any n h0 h1 _ h).mono ?_
  rintro e w' ⟨rfl, hb⟩
  go_wp2_with fail
  go_ret
  exact ⟨rfl, hb⟩
theorem put8_any (n : Int) (h0 : 0 ≤ n) (h1 : n ≤ 18446744073709551615) (w : World) : Calls Tryd.prog 41 #[.int .u64 n, .int .i64 8] w fun e w' => e = .returned (.string ⟨(putU n.toNat 8).toArray⟩) ∧ Below w.heap.size w w' := by
  obtain ⟨m, rfl⟩ := Int.eq_ofNat_of_zero_le h0
  rw [Int.toNat_natCast]
  exact PWire.num_Put.calls 20 m 8 _ w (put_f m 8 8 (by decide) (by decide) 20 (by decide))
end Go.Proofs.YtokcmaehojljdaaDoor
