/- The program's step (a closure over the row of words). -/
import Derived.Test.YtgdjapcpgkflbaaLeaf
namespace Go.Proofs.Ytgdjapcpgkflbaa
open Go.RowKit
open Cc (g)

theorem wrap_add (x y : Nat) : IntKind.u32.wrap ((x : Int) + y) = (Cc.add x y : Nat) := by
  rw [IntKind.wrap_u32]
  unfold Cc.add
  omega

theorem half_as {L : List Nat} (hL : Cc.Ws L) {a b d k : Nat} (ha : a < 16) (had : a ≠ d) {M : List Nat} (hM : M = L.set a (Cc.add (g L a) (g L b))) :
    M.set d (Cc.rot (g M d ^^^ g M a) k) = Cc.half L a b d k := by
  have h1 : g M a = Cc.add (g L a) (g L b) := by rw [hM, Cc.g_set, if_pos ⟨rfl, by rw [hL.len]; omega⟩]
  have h2 : g M d = g L d := by rw [hM, Cc.g_set, if_neg (fun h => had h.1)]
  rw [h1, h2, hM]
  rfl

/-- The row behind t of the two halves. -/
def qs (L : List Nat) (a b c d : Nat) : Nat → List Nat
  | 0 => L
  | 1 => Cc.quart L a b c d 16 12
  | _ => Cc.step L a b c d
/-- The two turns of round t. -/
def Turns (t J K : Nat) : Prop := (t = 0 ∧ J = 16 ∧ K = 12) ∨ (t = 1 ∧ J = 8 ∧ K = 7)
theorem Turns.rot {t J K : Nat} (h : Turns t J K) (x : Nat) (w : World) (hx : x < 4294967296) :
    Calls Try.prog 16 #[.int .u32 x, .int .i64 J] w (fun e w' => e = .returned (.int .u32 (Cc.rot x J : Nat)) ∧ w = w') ∧
    Calls Try.prog 16 #[.int .u32 x, .int .i64 K] w (fun e w' => e = .returned (.int .u32 (Cc.rot x K : Nat)) ∧ w = w') := by
  rcases h with ⟨_, rfl, rfl⟩ | ⟨_, rfl, rfl⟩
  · exact ⟨rot16 x w hx, rot12 x w hx⟩
  · exact ⟨rot8 x w hx, rot7 x w hx⟩
theorem Turns.qs {t J K : Nat} (h : Turns t J K) (L : List Nat) (a b c d : Nat) : Cc.half (Cc.half (qs L a b c d t) a b d J) c d b K = qs L a b c d (t + 1) := by
  rcases h with ⟨rfl, rfl, rfl⟩ | ⟨rfl, rfl, rfl⟩
  · rfl
  · rfl
theorem Turns.le {t J K : Nat} (h : Turns t J K) : J ≤ 32 ∧ K ≤ 32 := by
  rcases h with ⟨rfl, rfl, rfl⟩ | ⟨rfl, rfl, rfl⟩ <;> decide
theorem Turns.index {t J K : Nat} (h : Turns t J K) (w : World) : (Instr.index 41 (.agg #[.int .i64 16, .int .i64 12, .int .i64 8, .int .i64 7]) (.int .i64 t)).run Try.prog w = .ok (.agg #[.int .i64 J, .int .i64 K]) w := by
  rcases h with ⟨rfl, rfl, rfl⟩ | ⟨rfl, rfl, rfl⟩
  · kernel_rfl
  · kernel_rfl
theorem Cc.Ws.qs {L : List Nat} (h : Cc.Ws L) (a b c d : Nat) : ∀ t, Cc.Ws (qs L a b c d t)
  | 0 => h
  | 1 => h.quart _ _ _ _ _ _ (by decide) (by decide)
  | _ + 2 => h.step _ _ _ _

set_option maxHeartbeats 1000000 in
theorem step_any (B : Nat) (L : List Nat) (hL : Cc.Ws L) (a b c d : Nat) (w : World) (ha : a < 4) (hb : 4 ≤ b) (hb2 : b < 8) (hc : 8 ≤ c) (hc2 : c < 12) (hd : 12 ≤ d) (hd2 : d < 16)
    (hr : Row w B 38 (vs .u32 L)) :
    Calls Try.prog 15 #[.int .i64 a, .int .i64 b, .int .i64 c, .int .i64 d, .pointer (some ⟨B, 0, none⟩)] w fun e w' => e = .returned (.tuple #[]) ∧ Row w' B 38 (vs .u32 (Cc.step L a b c d)) ∧ w.grownBy w' (some B) := by
  have ha' : (a : Int) < 16 := by omega
  have hb' : (b : Int) < 16 := by omega
  have hc' : (c : Int) < 16 := by omega
  have hd' : (d : Int) < 16 := by omega
  go_enter Try.func15, Try.ntmps15
  go_wp2_with fail
  go_loopw [14] (fun v14 wr => ∃ t : Nat, t ≤ 2 ∧ v14 = .int .i64 t ∧ Row wr B 38 (vs .u32 (qs L a b c d t)) ∧ w.grownBy wr (some B)) (fun v14 _ => 2 - (intOf v14).toNat)
  case atStart => exact ⟨0, by omega, rfl, hr, grown_refl _ _⟩
  case round =>
    clear hr
    obtain ⟨t, ht, rfl, hr, hg⟩ := hrel
    by_cases hlt : t < 2
    · obtain ⟨J, K, hT⟩ : ∃ J K, Turns t J K := by
        rcases Nat.lt_or_ge t 1 with h | h
        · exact ⟨16, 12, .inl ⟨by omega, rfl, rfl⟩⟩
        · exact ⟨8, 7, .inr ⟨by omega, rfl, rfl⟩⟩
      have hix := hT.index
      have hqs := Sec.mk (hT.qs L a b c d)
      have hrot := Sec.mk hT.rot
      have hle := hT.le
      have hLt := hL.qs a b c d t
      clear hT hL
      generalize qs L a b c d t = M1 at *
      have hM1 := hLt
      go_wp2_with fail
      refine wp_abs (fun W1 HW1 => ?_)
      have r1 : Row W1 B 38 (vs .u32 M1) := by rw [HW1.out]; exact hr.alloc _
      have g1 : w.grownBy W1 (some B) := by rw [HW1.out]; exact grown_alloc hg _
      have q1 : Row W1 wr.heap.size 40 #[.int .i64 J, .int .i64 K] := by rw [HW1.out]; exact Row.new wr _ 40
      have hBQ : B ≠ wr.heap.size := Nat.ne_of_lt hr.lt
      clear HW1 hr hg
      generalize wr.heap.size = Q at q1 hBQ ⊢

      have cx1 := r1.cell (i := a) (by rw [hM1.len]; omega)
      have cy1 := r1.cell (i := b) (by rw [hM1.len]; omega)
      have fx1 := r1.free a
      have e1 := wrap_add (g M1 a) (g M1 b)
      have r2 := (r1.set a (Cc.add (g M1 a) (g M1 b))).drew
      have g2 := grown_drew (grown_set g1 a (.int .u32 (Cc.add (g M1 a) (g M1 b) : Nat)))
      have q2 := (q1.aside (a := ⟨B, a, none⟩) (Ne.symm hBQ) (.int .u32 (Cc.add (g M1 a) (g M1 b) : Nat))).drew
      have hM2 := hM1.set a _ (Cc.add_lt (g M1 a) (g M1 b))
      refine wp_region_tail 8 (by kernel_rfl) (by kernel_rfl) ?_
      simp only [List.take_succ_cons, List.take_zero, List.drop_succ_cons, List.drop_zero]
      repeat still_step
      refine wpStill_nil ?_
      go_wp2_with fail
      refine wp_abs (fun W2 HW2 => ?_)
      rw [← HW2.out] at r2 g2 q2
      clear HW2 r1 g1 q1 cx1 cy1 fx1 e1
      obtain ⟨M2, hE2⟩ : ∃ M2, M2 = M1.set a (Cc.add (g M1 a) (g M1 b)) := ⟨_, rfl⟩
      rw [← hE2] at r2 hM2
      replace hE2 := Sec.mk hE2
      clear hM1

      have cx2 := r2.cell (i := d) (by rw [hM2.len]; omega)
      have cy2 := r2.cell (i := a) (by rw [hM2.len]; omega)
      have ck2 := q2.get (i := 0)
      have fx2 := r2.free d
      have e2 := xor_u32 _ _ (hM2.lt d) (hM2.lt a)
      have lx2 := Cc.xor_lt (hM2.lt d) (hM2.lt a)
      have HR2 := Sec.mk (fun w => calls_flip (hrot.out _ w lx2).1)
      have r3 := (r2.set d (Cc.rot (g M2 d ^^^ g M2 a) J)).drew
      have g3 := grown_drew (grown_set g2 d (.int .u32 (Cc.rot (g M2 d ^^^ g M2 a) J : Nat)))
      have q3 := (q2.aside (a := ⟨B, d, none⟩) (Ne.symm hBQ) (.int .u32 (Cc.rot (g M2 d ^^^ g M2 a) J : Nat))).drew
      have hM3 := hM2.set d _ (Cc.rot_lt lx2 hle.1)
      obtain ⟨z2, hz2⟩ : ∃ z, z = g M2 d ^^^ g M2 a := ⟨_, rfl⟩
      rw [← hz2] at r3 g3 q3 hM3 e2 HR2
      replace hz2 := Sec.mk hz2
      refine wp_region_tail 12 (by kernel_rfl) (by kernel_rfl) ?_
      simp only [List.take_succ_cons, List.take_zero, List.drop_succ_cons, List.drop_zero]
      repeat still_step
      still_call (HR2.out _)
      repeat still_step
      refine wpStill_nil ?_
      go_wp2_with fail
      refine wp_abs (fun W3 HW3 => ?_)
      rw [← HW3.out] at r3 g3 q3
      clear HW3 r2 g2 q2 cx2 cy2 ck2 fx2 e2 lx2 HR2
      obtain ⟨M3, hE3⟩ : ∃ M3, M3 = M2.set d (Cc.rot z2 J) := ⟨_, rfl⟩
      rw [← hE3] at r3 hM3
      replace hE3 := Sec.mk hE3
      clear hM2

      have cx3 := r3.cell (i := c) (by rw [hM3.len]; omega)
      have cy3 := r3.cell (i := d) (by rw [hM3.len]; omega)
      have fx3 := r3.free c
      have e3 := wrap_add (g M3 c) (g M3 d)
      have r4 := (r3.set c (Cc.add (g M3 c) (g M3 d))).drew
      have g4 := grown_drew (grown_set g3 c (.int .u32 (Cc.add (g M3 c) (g M3 d) : Nat)))
      have q4 := (q3.aside (a := ⟨B, c, none⟩) (Ne.symm hBQ) (.int .u32 (Cc.add (g M3 c) (g M3 d) : Nat))).drew
      have hM4 := hM3.set c _ (Cc.add_lt (g M3 c) (g M3 d))
      refine wp_region_tail 8 (by kernel_rfl) (by kernel_rfl) ?_
      simp only [List.take_succ_cons, List.take_zero, List.drop_succ_cons, List.drop_zero]
      repeat still_step
      refine wpStill_nil ?_
      go_wp2_with fail
      refine wp_abs (fun W4 HW4 => ?_)
      rw [← HW4.out] at r4 g4 q4
      clear HW4 r3 g3 q3 cx3 cy3 fx3 e3
      obtain ⟨M4, hE4⟩ : ∃ M4, M4 = M3.set c (Cc.add (g M3 c) (g M3 d)) := ⟨_, rfl⟩
      rw [← hE4] at r4 hM4
      replace hE4 := Sec.mk hE4
      clear hM3

      have cx4 := r4.cell (i := b) (by rw [hM4.len]; omega)
      have cy4 := r4.cell (i := c) (by rw [hM4.len]; omega)
      have ck4 := q4.get (i := 1)
      have fx4 := r4.free b
      have e4 := xor_u32 _ _ (hM4.lt b) (hM4.lt c)
      have lx4 := Cc.xor_lt (hM4.lt b) (hM4.lt c)
      have HR4 := Sec.mk (fun w => calls_flip (hrot.out _ w lx4).2)
      have r5 := (r4.set b (Cc.rot (g M4 b ^^^ g M4 c) K)).drew
      have g5 := grown_drew (grown_set g4 b (.int .u32 (Cc.rot (g M4 b ^^^ g M4 c) K : Nat)))
      have q5 := (q4.aside (a := ⟨B, b, none⟩) (Ne.symm hBQ) (.int .u32 (Cc.rot (g M4 b ^^^ g M4 c) K : Nat))).drew
      have hM5 := hM4.set b _ (Cc.rot_lt lx4 hle.2)
      obtain ⟨z4, hz4⟩ : ∃ z, z = g M4 b ^^^ g M4 c := ⟨_, rfl⟩
      rw [← hz4] at r5 g5 q5 hM5 e4 HR4
      replace hz4 := Sec.mk hz4
      refine wp_region_tail 12 (by kernel_rfl) (by kernel_rfl) ?_
      simp only [List.take_succ_cons, List.take_zero, List.drop_succ_cons, List.drop_zero]
      repeat still_step
      still_call (HR4.out _)
      repeat still_step
      refine wpStill_nil ?_
      go_wp2_with fail
      have h3 : M3 = Cc.half M1 a b d J := by
        rw [hE3.out, hz2.out]
        exact half_as hLt (by omega) (by omega) hE2.out
      have hL3 : Cc.Ws M3 := by rw [h3]; exact hLt.half _ _ _ _ hle.1
      have h5 : M4.set b (Cc.rot z4 K) = Cc.half M3 c d b K := by
        rw [hz4.out]
        exact half_as hL3 (by omega) (by omega) hE4.out
      rw [h5, h3, hqs.out] at r5
      go_roundw
      case rel => exact ⟨t + 1, by omega, by go_num, r5, g5⟩
      case measure => simp [intOf]; omega
    · rw [show t = 2 from by omega] at hr
      go_wp2_with fail
      go_end0
      exact ⟨rfl, hr, hg⟩
end Go.Proofs.Ytgdjapcpgkflbaa
