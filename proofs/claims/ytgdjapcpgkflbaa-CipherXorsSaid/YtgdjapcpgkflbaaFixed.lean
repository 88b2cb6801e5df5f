/- The chapter's example holds: the statement's own look at the block of zeros. -/
import Derived.Test.YtgdjapcpgkflbaaBlock
namespace Go.Proofs.Ytgdjapcpgkflbaa
open Go.RowKit
open Cc (g)

set_option maxRecDepth 100000 in
theorem fixed_val : (Cc.block (List.replicate 32 0) (List.replicate 12 0) 0).take 4 = [118, 184, 224, 173] := by decide +kernel
theorem fixed_g (i : Nat) (hi : i < 4) : g (Cc.block (List.replicate 32 0) (List.replicate 12 0) 0) i = g [118, 184, 224, 173] i := by
  rw [← fixed_val]
  unfold g
  simp only [List.getD_eq_getElem?_getD, List.getElem?_take, hi, if_true]

set_option maxHeartbeats 1000000 in
theorem fixed_any (w : World) : Calls Try.prog 9 #[] w fun e w' => e = .returned (.bool true) ∧ Below w.heap.size w w' := by
  have H := Sec.mk (fun w => block_any (List.replicate 32 0) (List.replicate 12 0) 0 (by simp) (by simp) (by intro x hx; rw [(List.mem_replicate.1 hx).2]; decide) (by intro x hx; rw [(List.mem_replicate.1 hx).2]; decide) (by decide) w)
  have f0 := Sec.mk (fixed_g 0 (by decide))
  have f1 := Sec.mk (fixed_g 1 (by decide))
  have f2 := Sec.mk (fixed_g 2 (by decide))
  have f3 := Sec.mk (fixed_g 3 (by decide))
  have hl := Cc.block_len (List.replicate 32 0) (List.replicate 12 0) 0
  generalize Cc.block (List.replicate 32 0) (List.replicate 12 0) 0 = K at *
  go_enter Try.func9, Try.ntmps9
  go_wp2_with fail
  refine (H.out _).mono ?_
  rintro e W1 ⟨rfl, hB⟩
  go_upto_region 2 with (refine wpList_store_row rfl 27 (.tmp 1) (.tmp 4) rfl W1.heap.size (vs .u8 K) rfl rfl 27 _ (Row.new W1 _ 27) (by rw [vs_size, hl]; kernel_rfl) (by rw [vs_size, hl]; rfl) (vs_all _ _) ?_)
  refine wp_abs (fun W2 HW2 => ?_)
  have hr : Row W2 W1.heap.size 27 (vs .u8 K) := by rw [HW2.out]; exact (Row.new W1 _ 27).row
  have hb : Below w.heap.size w W2 := by rw [HW2.out]; exact below_row (hB.alloc hB.size _) hB.size _
  clear HW2 hB
  have c0 := hr.cell (i := 0) (by omega)
  have c1 := hr.cell (i := 1) (by omega)
  have c2 := hr.cell (i := 2) (by omega)
  have c3 := hr.cell (i := 3) (by omega)
  rw [f0.out] at c0
  rw [f1.out] at c1
  rw [f2.out] at c2
  rw [f3.out] at c3
  simp only [g, List.getD_cons_zero, List.getD_cons_succ] at c0 c1 c2 c3
  clear H hl hr f0 f1 f2 f3
  go_wp2_with fail
  go_ret
  exact ⟨rfl, hb⟩
end Go.Proofs.Ytgdjapcpgkflbaa
