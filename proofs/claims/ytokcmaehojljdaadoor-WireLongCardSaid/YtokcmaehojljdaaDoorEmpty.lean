/- wire.empty: its walk. -/
import Derived.Test.YtokcmaehojljdaaDoorSnap
namespace Go.Proofs.YtokcmaehojljdaaDoor
open Go.RowKit Go.Proofs.YtokcmaehojljdaaDoorW.PrintWords Go.Proofs.YtokcmaehojljdaaDoorW.PrintLast Go.Proofs.YtokcmaehojljdaaDoorW.PrintMore

/-- The nine cells in front. -/
structure SnCells (w : World) (b : Nat) (s : Sn) (v0 v1 v2 : Value) : Prop where
  k0 : w.cell? ⟨b, 0, none⟩ = some (.string s.mach)
  k1 : w.cell? ⟨b, 1, none⟩ = some (.int .i64 s.n)
  k2 : w.cell? ⟨b, 2, none⟩ = some (.int .i64 s.at_)
  k3 : w.cell? ⟨b, 3, none⟩ = some (.int .u64 s.clock)
  k4 : w.cell? ⟨b, 4, none⟩ = some (.int .i64 s.pages)
  k5 : w.cell? ⟨b, 5, none⟩ = some (.int .i64 s.blocks)
  k6 : w.cell? ⟨b, 6, none⟩ = some v0
  k7 : w.cell? ⟨b, 7, none⟩ = some v1
  k8 : w.cell? ⟨b, 8, none⟩ = some v2
theorem sn_cells {w : World} {b : Nat} {s : Sn} {v0 v1 v2 : Value} (h : Row w b 28 (snL s v0 v1 v2).toArray) : SnCells w b s v0 v1 v2 :=
  ⟨h.at_ 0, h.at_ 1, h.at_ 2, h.at_ 3, h.at_ 4, h.at_ 5, h.at_ 6, h.at_ 7, h.at_ 8⟩
def emptyB (s : Sn) : Bool := ((s.l0.length : Int) + s.l1.length + s.l2.length == 0) && (s.mach.toList == []) && (s.n == 0) && (s.at_ == 0) && (s.clock == 0) && (s.pages == 0) && (s.blocks == 0) && (s.sum == List.replicate 32 0)
set_option maxHeartbeats 2000000 in
set_option maxRecDepth 100000 in
theorem empty_any (s : Sn) (v0 v1 v2 : Value) (w : World) (h : SnOk w s v0 v1 v2) :
    Calls Tryd.prog 25 #[.agg (snL s v0 v1 v2).toArray] w fun e w' => e = .returned (.bool (emptyB s)) ∧ Below w.heap.size w w' := by
  obtain ⟨A0, c0, rfl, _, _, n0, _⟩ := h.h0
  obtain ⟨A1, c1, rfl, _, _, n1, _⟩ := h.h1
  obtain ⟨A2, c2, rfl, _, _, n2, _⟩ := h.h2
  have hs := h.hs
  clear h
  have e0 := Sec.mk (fun W => sum_eq W s.sum (List.replicate 32 0) hs (by decide))
  rw [zero_sum] at e0
  have hR := Row.new w (snL s (.slice A0 s.l0.length c0) (.slice A1 s.l1.length c1) (.slice A2 s.l2.length c2)).toArray 28
  have hb0 := (Below.refl w.heap.size w).alloc (Nat.le_refl _) (.cells (snL s (.slice A0 s.l0.length c0) (.slice A1 s.l1.length c1) (.slice A2 s.l2.length c2)).toArray 28)
  go_enter Tryd.func25, Tryd.ntmps25
  go_upto_region 1 with (fail)
  refine wp_abs (fun W HW => ?_)
  rw [← HW.out] at hR hb0
  clear HW
  have hsum := sn_sum hR hs
  obtain ⟨k0, k1, k2, k3, k4, k5, k6, k7, k8⟩ := sn_cells hR
  go_wp2_with (first | refine wpList_load_list rfl 26 (.tmp 51) rfl w.heap.size 9 rfl _ hsum ?_ | refine wpList_value (v := .bool (s.sum == List.replicate 32 0)) rfl (run_exec_eql W rfl rfl rfl (by kernel_rfl) (e0.out W)) ?_)
  all_goals go_ret
  all_goals exact ⟨by simp [emptyB, *], hb0⟩
end Go.Proofs.YtokcmaehojljdaaDoor
