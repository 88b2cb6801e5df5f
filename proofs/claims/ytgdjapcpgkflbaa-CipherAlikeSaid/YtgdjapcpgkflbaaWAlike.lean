/- CipherAlike: its walk. -/
import Derived.Test.YtgdjapcpgkflbaaWBack
namespace Go.Proofs.Ytgdjapcpgkflbaa
open Go.RowKit
open Cc (g)

/-- Byte i of both texts: turned alike, they differ as they did. -/
theorem alike_eq (f : Nat → Nat) (A B : List Nat) (i : Nat) (ha : i < A.length) (hb : i < B.length) : g (Cc.xorS f A) i ^^^ g (Cc.xorS f B) i = g A i ^^^ g B i := by
  rw [Cc.xorS_g f A i ha, Cc.xorS_g f B i hb, Nat.xor_comm (g B i), ← Nat.xor_assoc, Nat.xor_assoc (g A i), Nat.xor_self, Nat.xor_zero]

set_option maxHeartbeats 1000000 in
theorem alike_walk (key nonce : List Nat) (n : Nat) (s t : ByteArray) (hk : key.length = 32) (hn : nonce.length = 12) (hkl : ∀ x ∈ key, x < 256) (hnl : ∀ x ∈ nonce, x < 256) (hnn : n < 4294967296)
    (hs : s.size ≤ 9223372036854775807) (ht : t.size ≤ 9223372036854775807) (w : World) :
    Calls Try.prog 7 #[.agg (caseA key nonce n), .string s, .string t] w fun e w' => e = .returned (.bool true) ∧ Below w.heap.size w w' := by
  have hc0 : CRow (w.alloc (.cells (caseA key nonce n) 31)) w.heap.size key nonce n := ⟨Row.new w _ 31, hk, hn, hkl, hnl, hnn⟩
  have hb0 := (Below.refl w.heap.size w).alloc (Nat.le_refl _) (.cells (caseA key nonce n) 31)
  clear hk hn hkl hnl
  by_cases hlt : 5000 < s.size ∨ 5000 < t.size
  · by_cases hl2 : 5000 < s.size
    · have hd : decide ((5000 : Int) < s.size) = true := decide_eq_true (by omega)
      go_enter Try.func7, Try.ntmps7
      go_wp2_with fail
      refine (fixed_any _).mono ?_
      rintro e w1 ⟨rfl, hb1⟩
      go_wp2_with fail
      go_ret
      exact ⟨rfl, hb0.trans (hb1.mono hb0.size)⟩
    · have hd : decide ((5000 : Int) < s.size) = false := decide_eq_false (by omega)
      have hd2 : decide ((5000 : Int) < t.size) = true := decide_eq_true (by omega)
      go_enter Try.func7, Try.ntmps7
      go_wp2_with fail
      refine (fixed_any _).mono ?_
      rintro e w1 ⟨rfl, hb1⟩
      go_wp2_with fail
      go_ret
      exact ⟨rfl, hb0.trans (hb1.mono hb0.size)⟩
  · have hd : decide ((5000 : Int) < s.size) = false := decide_eq_false (by omega)
    have hd2 : decide ((5000 : Int) < t.size) = false := decide_eq_false (by omega)
    obtain ⟨x, hx⟩ : ∃ x, x = txt (Cc.xorS (Cc.sb key nonce n) (bytes s)) := ⟨_, rfl⟩
    obtain ⟨y, hy⟩ : ∃ y, y = txt (Cc.xorS (Cc.sb key nonce n) (bytes t)) := ⟨_, rfl⟩
    have H1 := fun w => xor_c hc0 s hs n hnn w
    have H2 := fun w => xor_c hc0 t ht n hnn w
    rw [← hx] at H1
    rw [← hy] at H2
    have hxs : x.size = s.size := by rw [hx, txt_size, Cc.xorS_len, bytes_len]
    have hys : y.size = t.size := by rw [hy, txt_size, Cc.xorS_len, bytes_len]
    have hxb : bytes x = Cc.xorS (Cc.sb key nonce n) (bytes s) := by rw [hx, bytes_txt (Cc.xorS_lt (Cc.sb_lt key nonce n) (bytes_lt s))]
    have hyb : bytes y = Cc.xorS (Cc.sb key nonce n) (bytes t) := by rw [hy, bytes_txt (Cc.xorS_lt (Cc.sb_lt key nonce n) (bytes_lt t))]
    have hal := fun i (h1 : i < (bytes s).length) (h2 : i < (bytes t).length) => alike_eq (Cc.sb key nonce n) (bytes s) (bytes t) i h1 h2
    rw [← hxb, ← hyb] at hal
    clear hx hy hxb hyb
    replace H1 := Sec.mk H1
    replace H2 := Sec.mk H2
    replace hal := Sec.mk hal
    go_enter Try.func7, Try.ntmps7
    go_upto_region 3 with (fail)
    refine wp_abs (fun W HW => ?_)
    rw [← HW.out] at hc0 hb0
    clear HW
    have CC : ∀ {f args v}, (∀ w, Calls Try.prog f args w fun e w' => e = .returned v ∧ Below w.heap.size w w') → ∀ w', Below W.heap.size W w' → Calls Try.prog f args w' fun e w'' => e = .returned v ∧ Below W.heap.size W w'' :=
      fun h w' hw' => (h w').mono fun _ _ ⟨h1, h2⟩ => ⟨h1, hw'.trans (h2.mono hw'.size)⟩
    have Rc := Sec.mk (fun w' (h : Below W.heap.size W w') => hc0.kept h hc0.row.lt)
    refine wp_region_below W.heap.size (by kernel_rfl) (by kernel_rfl) ?_
    refine wpQuiet_step (fun K hK => ?_)
    refine wq_value (v := .pointer (some ⟨w.heap.size, 0, none⟩)) rfl (fun _ _ => by go_simp; try rfl) ?_
    go_simp
    refine hK _ ?_
    clear hK K
    refine wpQuiet_step (fun K hK => ?_)
    refine wq_load_part rfl 23 (.tmp 19) rfl w.heap.size 0 rfl .u8 key (fun w' h => (Rc.out w' h).key_) ?_
    go_simp
    refine hK _ ?_
    clear hK K
    refine wpQuiet_step (fun K hK => ?_)
    refine wq_value (v := .pointer (some ⟨w.heap.size, 32, none⟩)) rfl (fun _ _ => by go_simp; try rfl) ?_
    go_simp
    refine hK _ ?_
    clear hK K
    refine wpQuiet_step (fun K hK => ?_)
    refine wq_load_part rfl 24 (.tmp 21) rfl w.heap.size 32 rfl .u8 nonce (fun w' h => (Rc.out w' h).nonce_) ?_
    go_simp
    refine hK _ ?_
    clear hK K
    refine wpQuiet_step (fun K hK => ?_)
    refine wq_value (v := .pointer (some ⟨w.heap.size, 44, none⟩)) rfl (fun _ _ => by go_simp; try rfl) ?_
    go_simp
    refine hK _ ?_
    clear hK K
    refine wpQuiet_step (fun K hK => ?_)
    refine wq_value (v := .int .u32 n) rfl (fun w' h => by have c := (Rc.out w' h).n_; go_simp; try rfl) ?_
    go_simp
    refine hK _ ?_
    clear hK K
    refine wpQuiet_step (fun K hK => ?_)
    refine wq_value (v := .string s) rfl (fun _ _ => by go_simp; try rfl) ?_
    go_simp
    refine hK _ ?_
    clear hK K
    refine wpQuiet_step (fun K hK => ?_)
    refine wq_call (f := 12) (args := #[.agg (vs .u8 key), .agg (vs .u8 nonce), .int .u32 n, .string s]) (v := .string x) rfl (fun _ _ => by go_simp) (CC H1.out) ?_
    go_simp
    refine hK _ ?_
    clear hK K
    refine wpQuiet_step (fun K hK => ?_)
    refine wq_value (v := .pointer (some ⟨w.heap.size, 0, none⟩)) rfl (fun _ _ => by go_simp; try rfl) ?_
    go_simp
    refine hK _ ?_
    clear hK K
    refine wpQuiet_step (fun K hK => ?_)
    refine wq_load_part rfl 23 (.tmp 27) rfl w.heap.size 0 rfl .u8 key (fun w' h => (Rc.out w' h).key_) ?_
    go_simp
    refine hK _ ?_
    clear hK K
    refine wpQuiet_step (fun K hK => ?_)
    refine wq_value (v := .pointer (some ⟨w.heap.size, 32, none⟩)) rfl (fun _ _ => by go_simp; try rfl) ?_
    go_simp
    refine hK _ ?_
    clear hK K
    refine wpQuiet_step (fun K hK => ?_)
    refine wq_load_part rfl 24 (.tmp 29) rfl w.heap.size 32 rfl .u8 nonce (fun w' h => (Rc.out w' h).nonce_) ?_
    go_simp
    refine hK _ ?_
    clear hK K
    refine wpQuiet_step (fun K hK => ?_)
    refine wq_value (v := .pointer (some ⟨w.heap.size, 44, none⟩)) rfl (fun _ _ => by go_simp; try rfl) ?_
    go_simp
    refine hK _ ?_
    clear hK K
    refine wpQuiet_step (fun K hK => ?_)
    refine wq_value (v := .int .u32 n) rfl (fun w' h => by have c := (Rc.out w' h).n_; go_simp; try rfl) ?_
    go_simp
    refine hK _ ?_
    clear hK K
    refine wpQuiet_step (fun K hK => ?_)
    refine wq_value (v := .string t) rfl (fun _ _ => by go_simp; try rfl) ?_
    go_simp
    refine hK _ ?_
    clear hK K
    refine wpQuiet_step (fun K hK => ?_)
    refine wq_call (f := 12) (args := #[.agg (vs .u8 key), .agg (vs .u8 nonce), .int .u32 n, .string t]) (v := .string y) rfl (fun _ _ => by go_simp) (CC H2.out) ?_
    go_simp
    refine hK _ ?_
    clear hK K
    refine wpQuiet_step (fun K hK => ?_)
    refine wq_value (v := .string x) rfl (fun _ _ => by go_simp; try rfl) ?_
    go_simp
    refine hK _ ?_
    clear hK K
    refine wpQuiet_step (fun K hK => ?_)
    refine wq_value (v := .string y) rfl (fun _ _ => by go_simp; try rfl) ?_
    go_simp
    refine hK _ ?_
    clear hK K
    refine wpQuiet_nil ?_
    intro w1 hw1
    have hb1 := hb0.trans (hw1.mono hb0.size)
    clear hw1 Rc CC hc0 hb0 H1 H2
    have e1 : ((x.size : Int) != s.size) = false := by rw [bne_eq_false_iff_eq]; omega
    have e2 : ((y.size : Int) != t.size) = false := by rw [bne_eq_false_iff_eq]; omega
    have hsl := bytes_len s
    have htl := bytes_len t
    have hxl := bytes_len x
    have hyl := bytes_len y
    go_upto_block 0 with (fail)
    go_wp2_with fail
    go_loopw [9] (fun v9 wr => ∃ i : Nat, i ≤ s.size ∧ i ≤ t.size ∧ v9 = .int .i64 i ∧ Below w.heap.size w wr) (fun v9 _ => s.size - (intOf v9).toNat)
    case atStart => exact ⟨0, by omega, by omega, rfl, hb1⟩
    case round =>
      clear hb1
      obtain ⟨i, hi, hj, rfl, hb⟩ := hrel
      by_cases h1 : i < s.size
      · have hd1 : decide ((i : Int) < s.size) = true := decide_eq_true (by omega)
        by_cases h2 : i < t.size
        · have hd2 : decide ((i : Int) < t.size) = true := decide_eq_true (by omega)
          have fs := fun w => run_index_text Try.underlying9 s (bytes s) rfl i i (by omega) rfl w
          have ft := fun w => run_index_text Try.underlying9 t (bytes t) rfl i i (by omega) rfl w
          have fx := fun w => run_index_text Try.underlying9 x (bytes x) rfl i i (by omega) rfl w
          have fy := fun w => run_index_text Try.underlying9 y (bytes y) rfl i i (by omega) rfl w
          have ls := Cc.g_lt_of_all (by decide) (bytes_lt s) i
          have lt := Cc.g_lt_of_all (by decide) (bytes_lt t) i
          have lx := Cc.g_lt_of_all (by decide) (bytes_lt x) i
          have ly := Cc.g_lt_of_all (by decide) (bytes_lt y) i
          have exy := xor_u8 _ _ lx ly
          have est := xor_u8 _ _ ls lt
          rw [hal.out i (by omega) (by omega)] at exy
          generalize g (bytes s) i ^^^ g (bytes t) i = z at exy est
          generalize g (bytes s) i = a1 at *
          generalize g (bytes t) i = a2 at *
          generalize g (bytes x) i = a3 at *
          generalize g (bytes y) i = a4 at *
          clear hal hsl htl hxl hyl
          go_wp2_with fail
          go_quiet (fail)
          clear fs ft fx fy exy est
          go_wp2_with fail
          go_roundw
          case rel => exact ⟨i + 1, by omega, by omega, by go_num, below_drewN' hb _⟩
          case measure => simp [intOf]; omega
        · have hd2 : decide ((i : Int) < t.size) = false := decide_eq_false (by omega)
          go_wp2_with fail
          refine (fixed_any _).mono ?_
          rintro e w2 ⟨rfl, hb2⟩
          go_wp2_with fail
          go_ret
          exact ⟨rfl, hb.trans (hb2.mono hb.size)⟩
      · have hd1 : decide ((i : Int) < s.size) = false := decide_eq_false (by omega)
        go_wp2_with fail
        refine (fixed_any _).mono ?_
        rintro e w2 ⟨rfl, hb2⟩
        go_wp2_with fail
        go_ret
        exact ⟨rfl, hb.trans (hb2.mono hb.size)⟩
end Go.Proofs.Ytgdjapcpgkflbaa
