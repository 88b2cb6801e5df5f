/- The reference's step and block. -/
import Derived.Test.YtgdjapcpgkflbaaLeaf
namespace Go.Proofs.Ytgdjapcpgkflbaa
open Go.RowKit
open Cc (g)

theorem size45 {L : List Nat} (h : Cc.Ws L) : (Try.prog.info? 45).map (·.size) = some (vs .u64 L).size := by rw [vs_size, h.len]; kernel_rfl
theorem size16 {L : List Nat} (h : Cc.Ws L) (k : IntKind) : (vs k L).size = 16 := by rw [vs_size, h.len]

/-- A row of numbers, the result's row behind it, and nothing below turned. -/
structure Two (w W : World) (b t : Nat) (A : Array Value) : Prop where
  row : Row W b t A
  res : ∃ Z : Array Value, Z.size = 16 ∧ Row W (b + 1) t Z
  below : Below b w W
theorem Two.first {w W : World} {A Z : Array Value} {t : Nat} (hZ : Z.size = 16) (h : Below ((w.alloc (.cells A t)).alloc (.cells Z t)).heap.size ((w.alloc (.cells A t)).alloc (.cells Z t)) W) : Two w W w.heap.size t A :=
  ⟨((Row.new w A t).alloc _).below h (by rw [size_alloc, size_alloc]; omega), ⟨Z, hZ, (Row.new1 w _ Z t).below h (by rw [size_alloc, size_alloc]; omega)⟩,
    (((Below.refl _ _).alloc (Nat.le_refl _) _).alloc (by rw [size_alloc]; omega) _).trans (h.mono (by rw [size_alloc, size_alloc]; omega))⟩
theorem Two.next {w W W' : World} {b t : Nat} {A C : Array Value} (h : Two w W b t A) (k : Below (W.setRow b C).heap.size (W.setRow b C) W') : Two w W' b t C := by
  obtain ⟨r, ⟨Z, hZ, rz⟩, hb⟩ := h
  have h1 := rz.lt
  have h2 := r.lt
  exact ⟨r.row.below k (by rw [size_setRow]; exact h2), ⟨Z, hZ, (rz.rowOther (by omega) C).below k (by rw [size_setRow]; exact h1)⟩,
    (below_row hb (Nat.le_refl _) C).trans (k.mono (by rw [size_setRow]; omega))⟩

set_option maxHeartbeats 400000 in
theorem rstep_any (L : List Nat) (hL : Cc.Ws L) (a b c d : Nat) (w : World) (ha : a < 4) (hb : 4 ≤ b) (hb2 : b < 8) (hc : 8 ≤ c) (hc2 : c < 12) (hd : 12 ≤ d) (hd2 : d < 16) :
    Calls Try.prog 18 #[.agg (vs .u64 L), .int .i64 a, .int .i64 b, .int .i64 c, .int .i64 d] w fun e w' => e = .returned (.agg (vs .u64 (Cc.step L a b c d))) ∧ Below w.heap.size w w' := by
  have hL1 := hL.half a b d 16 (by decide)
  have hL2 := hL1.half c d b 12 (by decide)
  have hL3 := hL2.half a b d 8 (by decide)
  have hL4 := hL3.half c d b 7 (by decide)
  have hh : Cc.step L a b c d = Cc.half (Cc.half (Cc.half (Cc.half L a b d 16) c d b 12) a b d 8) c d b 7 := rfl
  have HH := Sec.mk hh
  clear hh
  have H1 := fun w => rhalf_any L hL a b d 16 65536 w (by omega) (by omega) (by omega) (by omega) (by omega) ⟨rfl⟩
  generalize Cc.half L a b d 16 = L1 at *
  have H2 := fun w => rhalf_any L1 hL1 c d b 12 4096 w (by omega) (by omega) (by omega) (by omega) (by omega) ⟨rfl⟩
  generalize Cc.half L1 c d b 12 = L2 at *
  have H3 := fun w => rhalf_any L2 hL2 a b d 8 256 w (by omega) (by omega) (by omega) (by omega) (by omega) ⟨rfl⟩
  generalize Cc.half L2 a b d 8 = L3 at *
  have H4 := fun w => rhalf_any L3 hL3 c d b 7 128 w (by omega) (by omega) (by omega) (by omega) (by omega) ⟨rfl⟩
  generalize Cc.half L3 c d b 7 = L4 at *
  replace H1 := Sec.mk H1
  replace H2 := Sec.mk H2
  replace H3 := Sec.mk H3
  replace H4 := Sec.mk H4
  go_enter Try.func18, Try.ntmps18
  go_wp2_with (refine wpList_load_row rfl 45 (.tmp 5) rfl w.heap.size rfl 45 (vs .u64 L) (0, 0) _ ((Row.new w (vs .u64 L) 45).alloc _) Try.underlying45 rfl (size45 hL) ?_)
  refine (H1.out _).mono ?_
  rintro e W1 ⟨rfl, HB1⟩
  have T1 := Two.first (by rfl) HB1
  clear HB1
  go_wp2_with (first
    | (refine wpList_store_row rfl 45 (.tmp 5) (.tmp 15) rfl w.heap.size (vs .u64 L1) rfl rfl 45 _ T1.row (size45 hL1) (by rw [size16 hL, size16 hL1]) (vs_all _ _) ?_)
    | (refine wpList_load_row rfl 45 (.tmp 5) rfl w.heap.size rfl 45 (vs .u64 L1) (0, 0) _ T1.row.row Try.underlying45 rfl (size45 hL1) ?_))
  refine (H2.out _).mono ?_
  rintro e W2 ⟨rfl, HB2⟩
  have T2 := T1.next HB2
  clear T1 HB2
  go_wp2_with (first
    | (refine wpList_store_row rfl 45 (.tmp 5) (.tmp 20) rfl w.heap.size (vs .u64 L2) rfl rfl 45 _ T2.row (size45 hL2) (by rw [size16 hL1, size16 hL2]) (vs_all _ _) ?_)
    | (refine wpList_load_row rfl 45 (.tmp 5) rfl w.heap.size rfl 45 (vs .u64 L2) (0, 0) _ T2.row.row Try.underlying45 rfl (size45 hL2) ?_))
  refine (H3.out _).mono ?_
  rintro e W3 ⟨rfl, HB3⟩
  have T3 := T2.next HB3
  clear T2 HB3
  go_wp2_with (first
    | (refine wpList_store_row rfl 45 (.tmp 5) (.tmp 25) rfl w.heap.size (vs .u64 L3) rfl rfl 45 _ T3.row (size45 hL3) (by rw [size16 hL2, size16 hL3]) (vs_all _ _) ?_)
    | (refine wpList_load_row rfl 45 (.tmp 5) rfl w.heap.size rfl 45 (vs .u64 L3) (0, 0) _ T3.row.row Try.underlying45 rfl (size45 hL3) ?_))
  refine (H4.out _).mono ?_
  rintro e W4 ⟨rfl, HB4⟩
  have T4 := T3.next HB4
  clear T3 HB4
  obtain ⟨r4, ⟨Z, hZ, rz⟩, hb⟩ := T4
  go_wp2_with (refine wpList_store_row rfl 45 (.tmp 10) (.tmp 30) rfl (w.heap.size + 1) (vs .u64 L4) rfl rfl 45 _ rz (size45 hL4) (by rw [hZ, size16 hL4]) (vs_all _ _) ?_)
  refine bodyPost_ret (results_cell_row rfl _ _ (w.heap.size + 1) _ _ _ _ rfl rz.row Try.underlying45 rfl (size45 hL4)) rfl ⟨by rw [HH.out], below_row hb (by omega) _⟩
end Go.Proofs.Ytgdjapcpgkflbaa
