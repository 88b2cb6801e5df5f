/- CipherBlocks: its walk. -/
import Derived.Test.YtgdjapcpgkflbaaFixed
import Derived.Test.YtgdjapcpgkflbaaQuiet
import Derived.Stop.BytesEq
namespace Go.Proofs.Ytgdjapcpgkflbaa
open Go.RowKit
open Cc (g)

theorem vs_cell {L : List Nat} (h : ∀ x ∈ L, x < 256) : vs .u8 L = ((L.map UInt8.ofNat).map Extern.Stop.cell).toArray := by
  unfold vs
  rw [List.map_map]
  congr 1
  apply List.map_congr_left
  intro x hx
  have := h x hx
  simp [Extern.Stop.cell]
  omega
theorem run_eql_row {P : Program} (w : World) (t e : TypeId) (n : Nat) (ht : P.underlying t = some (.array n e)) (he : P.underlying e = some (.int .u8)) (hsz : ∀ w, (sizeOf e).run P w = .ok 1 w)
    (L : List Nat) (hl : L.length = n) (h : ∀ x ∈ L, x < 256) : (binOp .eql t (.agg (vs .u8 L)) (.agg (vs .u8 L))).run P w = .ok (.bool true) w := by
  rw [vs_cell h, run_eql_bytes w t e n ht he hsz _ _ (by simpa using hl) (by simpa using hl)]
  simp

set_option maxHeartbeats 1000000 in
theorem blocks_walk (key nonce : List Nat) (n : Nat) (hk : key.length = 32) (hn : nonce.length = 12) (hkl : ∀ x ∈ key, x < 256) (hnl : ∀ x ∈ nonce, x < 256) (hnn : n < 4294967296) (w : World) :
    Calls Try.prog 3 #[.agg (vs .u8 key), .agg (vs .u8 nonce), .int .u32 n] w fun e w' => e = .returned (.bool true) ∧ Below w.heap.size w w' := by
  have i23 : (Try.prog.info? 23).map (·.size) = some (vs .u8 key).size := by rw [vs_size, hk]; kernel_rfl
  have i24 : (Try.prog.info? 24).map (·.size) = some (vs .u8 nonce).size := by rw [vs_size, hn]; kernel_rfl
  have H1 := Sec.mk (fun w => block_any key nonce n hk hn hkl hnl hnn w)
  have H2 := Sec.mk (fun w => rblock_any key nonce n hk hn hkl hnl hnn w)
  have he := Sec.mk (fun w => run_eql_row (P := Try.prog) w 27 5 64 Try.underlying27 Try.underlying5 (fun w => by kernel_rfl) (Cc.block key nonce n) (Cc.block_len _ _ _) (Cc.block_lt _ _ _))
  generalize Cc.block key nonce n = K at *
  go_enter Try.func3, Try.ntmps3
  go_upto_region 1 with (fail)
  refine wp_abs (fun W HW => ?_)
  have hk0 : Row W w.heap.size 23 (vs .u8 key) := by rw [HW.out]; exact (Row.new w _ 23).alloc _
  have hn0 : Row W (w.heap.size + 1) 24 (vs .u8 nonce) := by rw [HW.out]; exact Row.new1 w _ _ 24
  have hb0 : Below w.heap.size w W := by
    rw [HW.out]
    have b1 := (Below.refl w.heap.size w).alloc (Nat.le_refl _) (.cells (vs .u8 key) 23)
    exact b1.alloc b1.size _
  clear HW
  have Rk := Sec.mk (fun w' (h : Below W.heap.size W w') => hk0.below h hk0.lt)
  have Rn := Sec.mk (fun w' (h : Below W.heap.size W w') => hn0.below h hn0.lt)
  have CC : ∀ {f args v}, (∀ w, Calls Try.prog f args w fun e w' => e = .returned v ∧ Below w.heap.size w w') → ∀ w', Below W.heap.size W w' → Calls Try.prog f args w' fun e w'' => e = .returned v ∧ Below W.heap.size W w'' :=
    fun h w' hw' => (h w').mono fun _ _ ⟨h1, h2⟩ => ⟨h1, hw'.trans (h2.mono hw'.size)⟩
  refine wp_region_below W.heap.size (by kernel_rfl) (by kernel_rfl) ?_
  refine wpQuiet_step (fun K hK => ?_)
  refine wq_call (f := 9) (args := #[]) rfl (fun _ _ => by go_simp) (CC fixed_any) ?_
  go_simp
  refine hK _ ?_
  clear hK K
  refine wpQuiet_step (fun K hK => ?_)
  refine wq_value rfl (fun _ _ => by go_simp; rfl) ?_
  go_simp
  refine hK _ ?_
  clear hK K
  refine wpQuiet_step (fun K hK => ?_)
  refine wq_load_row rfl 23 (.tmp 3) rfl w.heap.size rfl 23 (vs .u8 key) (0, 0) _ (fun w' h => Rk.out w' h) Try.underlying23 rfl i23 ?_
  go_simp
  refine hK _ ?_
  clear hK K
  refine wpQuiet_step (fun K hK => ?_)
  refine wq_load_row rfl 24 (.tmp 4) rfl (w.heap.size + 1) rfl 24 (vs .u8 nonce) (0, 0) _ (fun w' h => Rn.out w' h) Try.underlying24 rfl i24 ?_
  go_simp
  refine hK _ ?_
  clear hK K
  refine wpQuiet_step (fun K hK => ?_)
  refine wq_value rfl (fun _ _ => by go_simp; rfl) ?_
  go_simp
  refine hK _ ?_
  clear hK K
  refine wpQuiet_step (fun K hK => ?_)
  refine wq_call (f := 10) (args := #[.agg (vs .u8 key), .agg (vs .u8 nonce), .int .u32 n]) rfl (fun _ _ => by go_simp) (CC H1.out) ?_
  go_simp
  refine hK _ ?_
  clear hK K
  refine wpQuiet_step (fun K hK => ?_)
  refine wq_load_row rfl 23 (.tmp 3) rfl w.heap.size rfl 23 (vs .u8 key) (0, 0) _ (fun w' h => Rk.out w' h) Try.underlying23 rfl i23 ?_
  go_simp
  refine hK _ ?_
  clear hK K
  refine wpQuiet_step (fun K hK => ?_)
  refine wq_load_row rfl 24 (.tmp 4) rfl (w.heap.size + 1) rfl 24 (vs .u8 nonce) (0, 0) _ (fun w' h => Rn.out w' h) Try.underlying24 rfl i24 ?_
  go_simp
  refine hK _ ?_
  clear hK K
  refine wpQuiet_step (fun K hK => ?_)
  refine wq_value rfl (fun _ _ => by go_simp; rfl) ?_
  go_simp
  refine hK _ ?_
  clear hK K
  refine wpQuiet_step (fun K hK => ?_)
  refine wq_call (f := 11) (args := #[.agg (vs .u8 key), .agg (vs .u8 nonce), .int .u32 n]) rfl (fun _ _ => by go_simp) (CC H2.out) ?_
  go_simp
  refine hK _ ?_
  clear hK K
  refine wpQuiet_step (fun K hK => ?_)
  refine wq_value (v := .bool true) rfl (fun w' _ => run_exec_eql w' rfl rfl rfl (by kernel_rfl) (he.out w')) ?_
  go_simp
  refine hK _ ?_
  clear hK K
  refine wpQuiet_step (fun K hK => ?_)
  refine wq_value rfl (fun _ _ => by go_simp; rfl) ?_
  go_simp
  refine hK _ ?_
  clear hK K
  refine wpQuiet_step (fun K hK => ?_)
  refine wq_value rfl (fun _ _ => by go_simp; rfl) ?_
  go_simp
  refine hK _ ?_
  clear hK K
  refine wpQuiet_nil ?_
  intro w' hw'
  have hb1 := hb0.trans (hw'.mono hb0.size)
  clear hw' hb0 hk0 hn0 Rk Rn CC
  go_wp2_with fail
  go_ret
  exact ⟨rfl, hb1⟩
end Go.Proofs.Ytgdjapcpgkflbaa
