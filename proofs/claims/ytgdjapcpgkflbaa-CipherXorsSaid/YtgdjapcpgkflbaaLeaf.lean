/- What the small functions of the cipher hand back: a rotation, a word of four bytes, the reference's sum, exclusive or, turn and word. -/
import Derived.Test.YtgdjapcpgkflbaaRows
import Derived.Test.YtgdjapcpgkflbaaK
import Derived.WalkSpells
import Derived.WalkLawsBesides
import Derived.Outline
import Derived.Deep.QuietTactic
import Derived.BigQuiet
import Derived.StillTailTactics
namespace Go.Proofs.Ytgdjapcpgkflbaa
open Go.RowKit
open Cc (g)

theorem ret_int {k : IntKind} {a b : Int} (h : a = b) : Ending.returned (.int k a) = Ending.returned (.int k b) := by rw [h]

theorem or_u32 (a b : Nat) (ha : a < 4294967296) (hb : b < 4294967296) : bits BinOp.or .u32 (a : Int) (b : Int) = ((a ||| b : Nat) : Int) :=
  (bits_nat .u32 32 (by decide) (fun n h0 h1 => by rw [IntKind.wrap_u32]; omega) a b ha hb).2
theorem xor_u32 (a b : Nat) (ha : a < 4294967296) (hb : b < 4294967296) : bits BinOp.xor .u32 (a : Int) (b : Int) = ((a ^^^ b : Nat) : Int) := by
  have ha' : a % 2 ^ IntKind.u32.bits = a := Nat.mod_eq_of_lt ha
  have hb' : b % 2 ^ IntKind.u32.bits = b := Nat.mod_eq_of_lt hb
  simp only [bits, BitVec.ofInt_natCast, BitVec.toNat_xor, BitVec.toNat_ofNat, ha', hb']
  rw [IntKind.wrap_u32]
  have := Cc.xor_lt ha hb
  omega
theorem xor_u8 (a b : Nat) (ha : a < 256) (hb : b < 256) : bits BinOp.xor .u8 (a : Int) (b : Int) = ((a ^^^ b : Nat) : Int) := by
  have ha' : a % 2 ^ IntKind.u8.bits = a := Nat.mod_eq_of_lt ha
  have hb' : b % 2 ^ IntKind.u8.bits = b := Nat.mod_eq_of_lt hb
  simp only [bits, BitVec.ofInt_natCast, BitVec.toNat_xor, BitVec.toNat_ofNat, ha', hb']
  rw [IntKind.wrap_u8]
  have := Nat.xor_lt_two_pow (n := 8) ha hb
  omega

theorem rot_form {x k A B : Nat} (hx : x < 4294967296) (hk : k ≤ 32) (hA : A = x * 2 ^ k % 4294967296) (hB : B = x / 2 ^ (32 - k)) : bits BinOp.or .u32 (A : Int) (B : Int) = (Cc.rot x k : Nat) := by
  have h1 : A < 4294967296 := by rw [hA]; exact Nat.mod_lt _ (by decide)
  have h2 : B < 4294967296 := by rw [hB]; exact Nat.lt_of_le_of_lt (Nat.div_le_self _ _) hx
  rw [or_u32 A B h1 h2, hA, hB, Cc.rot_or hx hk]

set_option maxHeartbeats 400000 in
theorem rot16 (x : Nat) (w : World) (h1 : x < 4294967296) :
    Calls Try.prog 16 #[.int .u32 x, .int .i64 16] w fun e w' => e = .returned (.int .u32 (Cc.rot x 16 : Nat)) ∧ w = w' := by
  have hb : bits BinOp.and IntKind.u64 16 31 = 16 := by decide
  go_enter Try.func16, Try.ntmps16
  go_wp2_with fail
  go_ret
  exact ⟨ret_int (rot_form (A := x * 65536 % 4294967296) (B := x / 65536) h1 (by decide) rfl rfl), rfl⟩
set_option maxHeartbeats 400000 in
theorem rot12 (x : Nat) (w : World) (h1 : x < 4294967296) :
    Calls Try.prog 16 #[.int .u32 x, .int .i64 12] w fun e w' => e = .returned (.int .u32 (Cc.rot x 12 : Nat)) ∧ w = w' := by
  have hb : bits BinOp.and IntKind.u64 12 31 = 12 := by decide
  go_enter Try.func16, Try.ntmps16
  go_wp2_with fail
  go_ret
  exact ⟨ret_int (rot_form (A := x * 4096 % 4294967296) (B := x / 1048576) h1 (by decide) rfl rfl), rfl⟩
set_option maxHeartbeats 400000 in
theorem rot8 (x : Nat) (w : World) (h1 : x < 4294967296) :
    Calls Try.prog 16 #[.int .u32 x, .int .i64 8] w fun e w' => e = .returned (.int .u32 (Cc.rot x 8 : Nat)) ∧ w = w' := by
  have hb : bits BinOp.and IntKind.u64 8 31 = 8 := by decide
  go_enter Try.func16, Try.ntmps16
  go_wp2_with fail
  go_ret
  exact ⟨ret_int (rot_form (A := x * 256 % 4294967296) (B := x / 16777216) h1 (by decide) rfl rfl), rfl⟩
set_option maxHeartbeats 400000 in
theorem rot7 (x : Nat) (w : World) (h1 : x < 4294967296) :
    Calls Try.prog 16 #[.int .u32 x, .int .i64 7] w fun e w' => e = .returned (.int .u32 (Cc.rot x 7 : Nat)) ∧ w = w' := by
  have hb : bits BinOp.and IntKind.u64 7 31 = 7 := by decide
  go_enter Try.func16, Try.ntmps16
  go_wp2_with fail
  go_ret
  exact ⟨ret_int (rot_form (A := x * 128 % 4294967296) (B := x / 33554432) h1 (by decide) rfl rfl), rfl⟩

set_option maxHeartbeats 400000 in
/-- The program's word of four bytes of a row. -/
theorem word_any (b t : Nat) (L : List Nat) (i n c : Nat) (w : World) (hL : ∀ x ∈ L, x < 256) (hr : Row w b t (vs .u8 L)) (hi : i + 4 ≤ L.length) (hn : 4 ≤ n) :
    Calls Try.prog 21 #[.slice (some ⟨b, i, none⟩) n c] w fun e w' => e = .returned (.int .u32 (Cc.word L i : Nat)) ∧ ∃ m, w' = w.drewN m := by
  have c0 := hr.cell (i := i) (by omega)
  have c1 := hr.cell (i := i + 1) (by omega)
  have c2 := hr.cell (i := i + 2) (by omega)
  have c3 := hr.cell (i := i + 3) (by omega)
  have l0 := Cc.g_lt_of_all (by decide) hL i
  have l1 := Cc.g_lt_of_all (by decide) hL (i + 1)
  have l2 := Cc.g_lt_of_all (by decide) hL (i + 2)
  have l3 := Cc.g_lt_of_all (by decide) hL (i + 3)
  have hw : Cc.word L i = g L i + 256 * g L (i + 1) + 65536 * g L (i + 2) + 16777216 * g L (i + 3) := rfl
  have HW := Sec.mk hw
  clear hw hL hr
  generalize g L i = x0 at *
  generalize g L (i + 1) = x1 at *
  generalize g L (i + 2) = x2 at *
  generalize g L (i + 3) = x3 at *
  have hn0 : (0 : Int) < n := by omega
  have hn1 : (1 : Int) < n := by omega
  have hn2 : (2 : Int) < n := by omega
  have hn3 : (3 : Int) < n := by omega
  go_enter Try.func21, Try.ntmps21
  go_wp2_with fail
  go_quiet (fail)
  go_wp2
  go_ret
  refine ⟨ret_int ?_, _, rfl⟩
  have hor := Cc.word_or l0 l1 l2 l3
  have h12 : x0 ||| x1 * 256 < 2 ^ 16 := Nat.or_lt_two_pow (by omega) (by omega)
  have h123 : (x0 ||| x1 * 256) ||| x2 * 65536 < 2 ^ 24 := Nat.or_lt_two_pow (by omega) (by omega)
  rw [HW.out, ← hor]
  rw [show ((x1 : Int) * 256) = ((x1 * 256 : Nat) : Int) from by omega, show ((x2 : Int) * 65536) = ((x2 * 65536 : Nat) : Int) from by omega,
    show ((x3 : Int) * 16777216) = ((x3 * 16777216 : Nat) : Int) from by omega,
    or_u32 _ _ (by omega) (by omega), or_u32 _ _ (by omega) (by omega), or_u32 _ _ (by omega) (by omega)]

set_option maxHeartbeats 400000 in
theorem radd_any (a b : Nat) (w : World) (ha : a < 4294967296) (hb : b < 4294967296) :
    Calls Try.prog 19 #[.int .u64 a, .int .u64 b] w fun e w' => e = .returned (.int .u64 (Cc.add a b : Nat)) ∧ w = w' := by
  go_enter Try.func19, Try.ntmps19
  go_wp2_with fail
  go_ret
  exact ⟨ret_int (by unfold Cc.add; omega), rfl⟩

set_option maxHeartbeats 400000 in
theorem rturn_any (x p : Nat) (w : World) (y : Nat) (hy : x * p = y) (hb : y ≤ 281474976710656) :
    Calls Try.prog 23 #[.int .u64 x, .int .u64 p] w fun e w' => e = .returned (.int .u64 ((y % 4294967296 + y / 4294967296 : Nat) : Int)) ∧ w = w' := by
  have hy' : (x : Int) * p = y := by exact_mod_cast hy
  go_enter Try.func23, Try.ntmps23
  go_wp2_with fail
  go_ret
  exact ⟨ret_int (by omega), rfl⟩

/-- The reference's turn by k bits is the rotation. -/
theorem rturn_rot (x k p : Nat) (w : World) (hx : x < 4294967296) (hk : k ≤ 16) (hp : p = 2 ^ k) :
    Calls Try.prog 23 #[.int .u64 x, .int .u64 p] w fun e w' => e = .returned (.int .u64 (Cc.rot x k : Nat)) ∧ w = w' := by
  have h1 : x * p ≤ 281474976710656 := by
    have : p ≤ 65536 := by rw [hp]; exact Nat.pow_le_pow_right (n := 2) (by decide) hk
    have := Nat.mul_le_mul (Nat.le_of_lt hx) this
    omega
  refine (rturn_any x p w (x * p) rfl h1).mono ?_
  rintro e w' ⟨rfl, rfl⟩
  refine ⟨ret_int (congrArg _ ?_), rfl⟩
  unfold Cc.rot
  rw [hp, show (4294967296 : Nat) = 2 ^ (32 - k) * 2 ^ k from by rw [← Nat.pow_add, show 32 - k + k = 32 from by omega], Nat.mul_div_mul_right _ _ (Nat.two_pow_pos _)]

theorem xor_next (a b k : Nat) : (a ^^^ b) % 2 ^ (k + 1) = (a ^^^ b) % 2 ^ k + if a / 2 ^ k % 2 = b / 2 ^ k % 2 then 0 else 2 ^ k := by
  rw [Nat.mod_pow_succ, Nat.xor_div_two_pow]
  have h : (a / 2 ^ k ^^^ b / 2 ^ k) % 2 = if a / 2 ^ k % 2 = b / 2 ^ k % 2 then 0 else 1 := by
    generalize a / 2 ^ k = x
    generalize b / 2 ^ k = y
    have e := Nat.xor_mod_two_pow (a := x) (b := y) (n := 1)
    simp only [Nat.pow_one] at e
    rw [e]
    rcases Nat.mod_two_eq_zero_or_one x with h | h <;> rcases Nat.mod_two_eq_zero_or_one y with h' | h' <;> rw [h, h'] <;> decide
  rw [h]
  split <;> simp

/-- The reference's loop over bits: after k of them. -/
def XorAt (a b k u x y o : Nat) : Prop := u = 2 ^ k ∧ x = a / 2 ^ k ∧ y = b / 2 ^ k ∧ o = (a ^^^ b) % 2 ^ k
theorem XorAt.start (a b : Nat) : XorAt a b 0 1 a b 0 := ⟨rfl, by simp, by simp, by simp [Nat.mod_one]⟩
theorem XorAt.le {a b k u x y o : Nat} (h : XorAt a b k u x y o) (hk : k < 32) : u ≤ 2147483648 := by
  rw [h.1]
  exact Nat.pow_le_pow_right (n := 2) (by decide) (show k ≤ 31 by omega)
theorem XorAt.same {a b k u x y o : Nat} (h : XorAt a b k u x y o) (hd : x % 2 = y % 2) : XorAt a b (k + 1) (2 * u) (x / 2) (y / 2) o := by
  obtain ⟨e1, e2, e3, e4⟩ := h
  refine ⟨by rw [e1, Nat.pow_succ, Nat.mul_comm], by rw [e2, Nat.pow_succ, Nat.div_div_eq_div_mul], by rw [e3, Nat.pow_succ, Nat.div_div_eq_div_mul], ?_⟩
  rw [xor_next, ← e2, ← e3, ← e4, if_pos hd]
  rfl
theorem XorAt.other {a b k u x y o : Nat} (h : XorAt a b k u x y o) (hd : x % 2 ≠ y % 2) : XorAt a b (k + 1) (2 * u) (x / 2) (y / 2) (o + u) := by
  obtain ⟨e1, e2, e3, e4⟩ := h
  refine ⟨by rw [e1, Nat.pow_succ, Nat.mul_comm], by rw [e2, Nat.pow_succ, Nat.div_div_eq_div_mul], by rw [e3, Nat.pow_succ, Nat.div_div_eq_div_mul], ?_⟩
  rw [xor_next, ← e2, ← e3, ← e4, if_neg hd, ← e1]
theorem XorAt.done {a b k u x y o : Nat} (h : XorAt a b k u x y o) (ha : a < 4294967296) (hb : b < 4294967296) (hk : k = 32) : o = a ^^^ b := by
  rw [h.2.2.2, hk]
  exact Nat.mod_eq_of_lt (Cc.xor_lt ha hb)

set_option maxHeartbeats 400000 in
theorem rxor_any (a b : Nat) (w : World) (ha : a < 4294967296) (hb : b < 4294967296) :
    Calls Try.prog 20 #[.int .u64 a, .int .u64 b] w fun e w' => e = .returned (.int .u64 (a ^^^ b : Nat)) ∧ w = w' := by
  have H0 := XorAt.start a b
  go_enter Try.func20, Try.ntmps20
  go_wp2_with fail
  go_loop [0, 1, 5, 6, 7] (fun v0 v1 v5 v6 v7 => ∃ k u x y o : Nat, k ≤ 32 ∧ u ≤ 4294967296 ∧ x < 4294967296 ∧ y < 4294967296 ∧ o < u ∧ XorAt a b k u x y o ∧
      v0 = .int .u64 x ∧ v1 = .int .u64 y ∧ v5 = .int .u64 o ∧ v6 = .int .u64 u ∧ v7 = .int .i64 k) (fun _ _ _ _ v7 => 32 - (intOf v7).toNat)
  case atStart => exact ⟨0, 1, a, b, 0, by omega, by omega, ha, hb, by omega, H0, rfl, rfl, rfl, rfl, rfl⟩
  case round =>
    obtain ⟨k, u, x, y, o, hk, hu, hx1, hy1, ho, H, rfl, rfl, rfl, rfl, rfl⟩ := hrel
    by_cases hlt : k < 32
    · have hu2 := H.le hlt
      by_cases hd : x % 2 = y % 2
      · have hd1 : ((x : Int) % 2 != (y : Int) % 2) = false := by rw [bne_eq_false_iff_eq]; omega
        have Hn := H.same hd
        clear hd H
        go_wp2
        go_round
        case rel => exact ⟨k + 1, 2 * u, x / 2, y / 2, o, by omega, by omega, by omega, by omega, by omega, Hn, rfl, rfl, rfl, by go_num, by go_num⟩
        case measure => simp [intOf]; omega
      · have hd1 : ((x : Int) % 2 != (y : Int) % 2) = true := by rw [bne_iff_ne]; omega
        have Hn := H.other hd
        clear hd H
        go_wp2
        go_round
        case rel => exact ⟨k + 1, 2 * u, x / 2, y / 2, o + u, by omega, by omega, by omega, by omega, by omega, Hn, rfl, rfl, by go_num, by go_num, by go_num⟩
        case measure => simp [intOf]; omega
    · have hd := H.done ha hb (by omega)
      have HD := Sec.mk hd
      clear hd
      go_wp2
      go_ret
      exact ⟨ret_int (congrArg _ HD.out), rfl⟩

set_option maxHeartbeats 400000 in
/-- The reference's word of a text. -/
theorem rword_any (s : ByteArray) (L : List Nat) (hs : s.data.toList.map UInt8.toNat = L) (i : Nat) (w : World) (hi : i + 4 ≤ L.length) (hm : L.length ≤ 64) :
    Calls Try.prog 17 #[.string s, .int .i64 i] w fun e w' => e = .returned (.int .u64 (Cc.word L i : Nat)) ∧ ∃ m, w' = w.drewN m := by
  have hL : ∀ x ∈ L, x < 256 := by
    intro x hx
    rw [← hs] at hx
    simp only [List.mem_map] at hx
    obtain ⟨y, _, rfl⟩ := hx
    exact y.toNat_lt
  have f0 := fun w => run_index_text Try.underlying9 s L hs i i (by omega) rfl w
  have f1 := fun w => run_index_text Try.underlying9 s L hs (i + 1) (i + 1) (by omega) (by omega) w
  have f2 := fun w => run_index_text Try.underlying9 s L hs (i + 2) (i + 2) (by omega) (by omega) w
  have f3 := fun w => run_index_text Try.underlying9 s L hs (i + 3) (i + 3) (by omega) (by omega) w
  have e1 : IntKind.i64.wrap ((i : Int) + 1) = i + 1 := IntWalk.i64_in _ (by omega)
  have e2 : IntKind.i64.wrap ((i : Int) + 2) = i + 2 := IntWalk.i64_in _ (by omega)
  have e3 : IntKind.i64.wrap ((i : Int) + 3) = i + 3 := IntWalk.i64_in _ (by omega)
  have l0 := Cc.g_lt_of_all (by decide) hL i
  have l1 := Cc.g_lt_of_all (by decide) hL (i + 1)
  have l2 := Cc.g_lt_of_all (by decide) hL (i + 2)
  have l3 := Cc.g_lt_of_all (by decide) hL (i + 3)
  have hw : Cc.word L i = g L i + 256 * g L (i + 1) + 65536 * g L (i + 2) + 16777216 * g L (i + 3) := rfl
  have HW := Sec.mk hw
  clear hw hL hs hm
  generalize g L i = x0 at *
  generalize g L (i + 1) = x1 at *
  generalize g L (i + 2) = x2 at *
  generalize g L (i + 3) = x3 at *
  go_enter Try.func17, Try.ntmps17
  go_wp2_with fail
  go_quiet (fail)
  clear e1 e2 e3 f0 f1 f2 f3
  go_wp2
  go_ret
  exact ⟨ret_int (by rw [HW.out]; omega), _, rfl⟩

set_option maxHeartbeats 400000 in
theorem rhalf_any (L : List Nat) (hL : Cc.Ws L) (a b d k p : Nat) (w : World) (ha : a < 16) (hb : b < 16) (hd : d < 16) (had : a ≠ d) (hk : k ≤ 16) (hp : Sec (p = 2 ^ k)) :
    Calls Try.prog 22 #[.agg (vs .u64 L), .int .i64 a, .int .i64 b, .int .i64 d, .int .u64 p] w fun e w' => e = .returned (.agg (vs .u64 (Cc.half L a b d k))) ∧ Below w.heap.size w w' := by
  have hlen := hL.len
  have ha' : (a : Int) < 16 := by omega
  have hb' : (b : Int) < 16 := by omega
  have hd' : (d : Int) < 16 := by omega
  go_enter Try.func22, Try.ntmps22
  go_wp2_with fail
  refine wp_abs (fun W HW => ?_)
  have r0 : Row W w.heap.size 45 (vs .u64 L) := by rw [HW.out]; exact (Row.new _ _ _).alloc _
  obtain ⟨Z, hZ, rz⟩ : ∃ Z : Array Value, Z.size = 16 ∧ Row W (w.heap.size + 1) 45 Z := by
    rw [HW.out]
    refine ⟨_, ?_, Row.new1 _ _ _ _⟩
    rfl
  have HB : Below w.heap.size w W := by rw [HW.out]; exact ((Below.refl _ _).alloc (Nat.le_refl _) _).alloc (by rw [size_alloc]; omega) _
  clear HW
  have ca := r0.cell (i := a) (by omega)
  have cb := r0.cell (i := b) (by omega)
  have la := hL.lt a
  have lb := hL.lt b
  have fr := r0.free a
  refine wp_region_tail 9 (by kernel_rfl) (by kernel_rfl) ?_
  simp only [List.take_succ_cons, List.take_zero, List.drop_succ_cons, List.drop_zero]
  repeat still_step
  still_call (calls_flip (radd_any _ _ _ la lb))
  repeat still_step
  refine wpStill_nil ?_
  go_wp2_with fail
  have lx : Cc.add (g L a) (g L b) < 4294967296 := Cc.add_lt _ _
  have r1 := (r0.set a (Cc.add (g L a) (g L b))).drew
  have rz1 := (rz.aside (a := ⟨w.heap.size, a, none⟩) (by simp) (.int .u64 (Cc.add (g L a) (g L b) : Nat))).drew
  have HB1 := (HB.setCell (p := ⟨w.heap.size, a, none⟩) (Nat.le_refl _) (.int .u64 (Cc.add (g L a) (g L b) : Nat))).drew
  refine wp_abs (fun W1 HW1 => ?_)
  rw [← HW1.out] at r1 rz1 HB1
  clear HW1 r0 rz HB ca cb fr la lb
  have cx := r1.cell (i := a) (by simp [hlen]; omega)
  have cd := r1.cell (i := d) (by simp [hlen]; omega)
  have fr := r1.free d
  rw [Cc.g_set, if_pos ⟨rfl, by omega⟩] at cx
  rw [Cc.g_set, if_neg (fun h => had h.1)] at cd
  have ld := hL.lt d
  have lxx := Cc.xor_lt ld lx
  have hpo := hp.out
  have hh : Cc.half L a b d k = (L.set a (Cc.add (g L a) (g L b))).set d (Cc.rot (g L d ^^^ Cc.add (g L a) (g L b)) k) := rfl
  have HH := Sec.mk hh
  have HP := Sec.mk hpo
  clear hh hpo hp
  generalize Cc.add (g L a) (g L b) = x at *
  generalize g L d = y at *
  refine wp_region_tail 11 (by kernel_rfl) (by kernel_rfl) ?_
  simp only [List.take_succ_cons, List.take_zero, List.drop_succ_cons, List.drop_zero]
  repeat still_step
  still_call (calls_flip (rxor_any _ _ _ ld lx))
  repeat still_step
  still_call (calls_flip (rturn_rot _ _ _ _ lxx hk HP.out))
  repeat still_step
  refine wpStill_nil ?_
  have r2 := (r1.set d (Cc.rot (y ^^^ x) k)).drew
  rw [← HH.out] at r2
  have rz2 := (rz1.aside (a := ⟨w.heap.size, d, none⟩) (by simp) (.int .u64 (Cc.rot (y ^^^ x) k : Nat))).drew
  have r3 := rz2.row (C := vs .u64 (Cc.half L a b d k))
  have HB2 := (HB1.setCell (p := ⟨w.heap.size, d, none⟩) (Nat.le_refl _) (.int .u64 (Cc.rot (y ^^^ x) k : Nat))).drew
  go_wp2_with (first
    | (refine wpList_load_row rfl 45 (.tmp 5) rfl w.heap.size rfl 45 (vs .u64 (Cc.half L a b d k)) (0, 0) _ r2 Try.underlying45 rfl (by rw [vs_size, (hL.half a b d k (by omega)).len]; kernel_rfl) ?_)
    | (refine wpList_store_row rfl 45 (.tmp 10) (.tmp 31) rfl (w.heap.size + 1) (vs .u64 (Cc.half L a b d k)) rfl rfl 45 _ rz2 (by rw [vs_size, (hL.half a b d k (by omega)).len]; kernel_rfl) (by rw [vs_size, (hL.half a b d k (by omega)).len]; exact hZ) (vs_all _ _) ?_))
  refine bodyPost_ret (results_cell_row rfl _ _ (w.heap.size + 1) _ _ _ _ rfl r3 Try.underlying45 rfl (by rw [vs_size, (hL.half a b d k (by omega)).len]; kernel_rfl)) rfl ⟨rfl, below_row HB2 (by omega) _⟩
end Go.Proofs.Ytgdjapcpgkflbaa
