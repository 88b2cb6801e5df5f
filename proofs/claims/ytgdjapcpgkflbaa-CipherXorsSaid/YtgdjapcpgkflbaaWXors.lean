/- CipherXors: its walk. -/
import Derived.Test.YtgdjapcpgkflbaaRXor
namespace Go.Proofs.Ytgdjapcpgkflbaa
open Go.RowKit
open Cc (g)

set_option maxHeartbeats 1000000 in
theorem xors_walk (key nonce : List Nat) (n : Nat) (s : ByteArray) (hk : key.length = 32) (hn : nonce.length = 12) (hkl : ∀ x ∈ key, x < 256) (hnl : ∀ x ∈ nonce, x < 256) (hnn : n < 4294967296)
    (hs : s.size ≤ 9223372036854775807) (w : World) :
    Calls Try.prog 4 #[.agg (caseA key nonce n), .string s] w fun e w' => e = .returned (.bool true) ∧ Below w.heap.size w w' := by
  have hc0 : CRow (w.alloc (.cells (caseA key nonce n) 31)) w.heap.size key nonce n := ⟨Row.new w _ 31, hk, hn, hkl, hnl, hnn⟩
  have hb0 := (Below.refl w.heap.size w).alloc (Nat.le_refl _) (.cells (caseA key nonce n) 31)
  by_cases hlt : 400 < s.size
  · have hd : decide ((400 : Int) < s.size) = true := decide_eq_true (by omega)
    go_enter Try.func4, Try.ntmps4
    go_wp2_with fail
    refine (fixed_any _).mono ?_
    rintro e w1 ⟨rfl, hb1⟩
    go_wp2_with fail
    go_ret
    exact ⟨rfl, hb0.trans (hb1.mono hb0.size)⟩
  · have hd : decide ((400 : Int) < s.size) = false := decide_eq_false (by omega)
    have H1 := fun w => xor_c hc0 s hs n hnn w
    have H2 := fun w => rxorS_any key nonce n s hk hn hkl hnl hnn (by omega) w
    obtain ⟨x, hx⟩ : ∃ x, x = txt (Cc.xorS (Cc.sb key nonce n) (bytes s)) := ⟨_, rfl⟩
    rw [← hx] at H1 H2
    clear hx hk hn hkl hnl
    replace H1 := Sec.mk H1
    replace H2 := Sec.mk H2
    go_enter Try.func4, Try.ntmps4
    go_upto_region 3 with (fail)
    refine wp_abs (fun W HW => ?_)
    rw [← HW.out] at hc0 hb0
    clear HW
    have CC : ∀ {f args v}, (∀ w, Calls Try.prog f args w fun e w' => e = .returned v ∧ Below w.heap.size w w') → ∀ w', Below W.heap.size W w' → Calls Try.prog f args w' fun e w'' => e = .returned v ∧ Below W.heap.size W w'' :=
      fun h w' hw' => (h w').mono fun _ _ ⟨h1, h2⟩ => ⟨h1, hw'.trans (h2.mono hw'.size)⟩
    have Rc := Sec.mk (fun w' (h : Below W.heap.size W w') => hc0.kept h hc0.row.lt)
    refine wp_region_below W.heap.size (by kernel_rfl) (by kernel_rfl) ?_
    refine wpQuiet_step (fun K hK => ?_)
    refine wq_call (f := 9) (args := #[]) (v := .bool true) rfl (fun _ _ => by go_simp) (CC fixed_any) ?_
    go_simp
    refine hK _ ?_
    clear hK K
    refine wpQuiet_step (fun K hK => ?_)
    refine wq_value (v := .bool true) rfl (fun _ _ => by go_simp; try rfl) ?_
    go_simp
    refine hK _ ?_
    clear hK K
    refine wpQuiet_step (fun K hK => ?_)
    refine wq_value (v := .pointer (some ⟨w.heap.size, 0, none⟩)) rfl (fun _ _ => by go_simp; try rfl) ?_
    go_simp
    refine hK _ ?_
    clear hK K
    refine wpQuiet_step (fun K hK => ?_)
    refine wq_load_part rfl 23 (.tmp 11) rfl w.heap.size 0 rfl .u8 key (fun w' h => (Rc.out w' h).key_) ?_
    go_simp
    refine hK _ ?_
    clear hK K
    refine wpQuiet_step (fun K hK => ?_)
    refine wq_value (v := .pointer (some ⟨w.heap.size, 32, none⟩)) rfl (fun _ _ => by go_simp; try rfl) ?_
    go_simp
    refine hK _ ?_
    clear hK K
    refine wpQuiet_step (fun K hK => ?_)
    refine wq_load_part rfl 24 (.tmp 13) rfl w.heap.size 32 rfl .u8 nonce (fun w' h => (Rc.out w' h).nonce_) ?_
    go_simp
    refine hK _ ?_
    clear hK K
    refine wpQuiet_step (fun K hK => ?_)
    refine wq_value (v := .pointer (some ⟨w.heap.size, 44, none⟩)) rfl (fun _ _ => by go_simp; try rfl) ?_
    go_simp
    refine hK _ ?_
    clear hK K
    refine wpQuiet_step (fun K hK => ?_)
    refine wq_value (v := .int .u32 n) rfl (fun w' h => by have c := (Rc.out w' h).n_; go_simp; try rfl) ?_
    go_simp
    refine hK _ ?_
    clear hK K
    refine wpQuiet_step (fun K hK => ?_)
    refine wq_value (v := .string s) rfl (fun _ _ => by go_simp; try rfl) ?_
    go_simp
    refine hK _ ?_
    clear hK K
    refine wpQuiet_step (fun K hK => ?_)
    refine wq_call (f := 12) (args := #[.agg (vs .u8 key), .agg (vs .u8 nonce), .int .u32 n, .string s]) (v := .string x) rfl (fun _ _ => by go_simp) (CC H1.out) ?_
    go_simp
    refine hK _ ?_
    clear hK K
    refine wpQuiet_step (fun K hK => ?_)
    refine wq_value (v := .pointer (some ⟨w.heap.size, 0, none⟩)) rfl (fun _ _ => by go_simp; try rfl) ?_
    go_simp
    refine hK _ ?_
    clear hK K
    refine wpQuiet_step (fun K hK => ?_)
    refine wq_load_part rfl 23 (.tmp 19) rfl w.heap.size 0 rfl .u8 key (fun w' h => (Rc.out w' h).key_) ?_
    go_simp
    refine hK _ ?_
    clear hK K
    refine wpQuiet_step (fun K hK => ?_)
    refine wq_value (v := .pointer (some ⟨w.heap.size, 32, none⟩)) rfl (fun _ _ => by go_simp; try rfl) ?_
    go_simp
    refine hK _ ?_
    clear hK K
    refine wpQuiet_step (fun K hK => ?_)
    refine wq_load_part rfl 24 (.tmp 21) rfl w.heap.size 32 rfl .u8 nonce (fun w' h => (Rc.out w' h).nonce_) ?_
    go_simp
    refine hK _ ?_
    clear hK K
    refine wpQuiet_step (fun K hK => ?_)
    refine wq_value (v := .pointer (some ⟨w.heap.size, 44, none⟩)) rfl (fun _ _ => by go_simp; try rfl) ?_
    go_simp
    refine hK _ ?_
    clear hK K
    refine wpQuiet_step (fun K hK => ?_)
    refine wq_value (v := .int .u32 n) rfl (fun w' h => by have c := (Rc.out w' h).n_; go_simp; try rfl) ?_
    go_simp
    refine hK _ ?_
    clear hK K
    refine wpQuiet_step (fun K hK => ?_)
    refine wq_value (v := .string s) rfl (fun _ _ => by go_simp; try rfl) ?_
    go_simp
    refine hK _ ?_
    clear hK K
    refine wpQuiet_step (fun K hK => ?_)
    refine wq_call (f := 13) (args := #[.agg (vs .u8 key), .agg (vs .u8 nonce), .int .u32 n, .string s]) (v := .string x) rfl (fun _ _ => by go_simp) (CC H2.out) ?_
    go_simp
    refine hK _ ?_
    clear hK K
    refine wpQuiet_step (fun K hK => ?_)
    refine wq_value (v := .bool true) rfl (fun _ _ => by go_simp; try rfl) ?_
    go_simp
    refine hK _ ?_
    clear hK K
    refine wpQuiet_step (fun K hK => ?_)
    refine wq_value (v := .bool true) rfl (fun _ _ => by go_simp; try rfl) ?_
    go_simp
    refine hK _ ?_
    clear hK K
    refine wpQuiet_step (fun K hK => ?_)
    refine wq_value (v := .bool true) rfl (fun _ _ => by go_simp; try rfl) ?_
    go_simp
    refine hK _ ?_
    clear hK K
    refine wpQuiet_nil ?_
    intro w1 hw1
    have hb1 := hb0.trans (hw1.mono hb0.size)
    clear hw1 Rc CC hc0 hb0 H1 H2
    go_wp2_with fail
    go_ret
    exact ⟨rfl, hb1⟩
end Go.Proofs.Ytgdjapcpgkflbaa
