/- CipherParts: its walk. -/
import Derived.Test.YtgdjapcpgkflbaaWBack
namespace Go.Proofs.Ytgdjapcpgkflbaa
open Go.RowKit
open Cc (g)

theorem bytes_extract (s : ByteArray) (a b : Nat) : bytes (s.extract a b) = ((bytes s).drop a).take (b - a) := by
  unfold bytes
  rw [ByteArray.data_extract]
  simp only [Array.toList_extract, List.extract_eq_take_drop, List.map_take, List.map_drop]
theorem txt_append (A B : List Nat) : txt (A ++ B) = txt A ++ txt B := by
  apply ByteArray.ext
  simp [txt]
theorem sb_on (key nonce : List Nat) (n b j : Nat) : Cc.sb key nonce ((n + b) % 4294967296) j = Cc.sb key nonce n (64 * b + j) := by
  unfold Cc.sb
  rw [show (64 * b + j) % 64 = j % 64 from by omega, show ((n + b) % 4294967296 + j / 64) % 4294967296 = (n + (64 * b + j) / 64) % 4294967296 from by omega]
theorem xorS_parts (f h : Nat → Nat) (L : List Nat) (a : Nat) (ha : a ≤ L.length) (hf : ∀ j, h j = f (a + j)) : Cc.xorS f L = Cc.xorS f (L.take a) ++ Cc.xorS h (L.drop a) := by
  apply List.ext_getElem
  · simp [Cc.xorS]; omega
  · intro j h1 h2
    have hj : j < L.length := by simpa [Cc.xorS] using h1
    rw [List.getElem_append]
    have gg : ∀ (M : List Nat) (i : Nat) (hi : i < M.length), g M i = M[i] := fun M i hi => by simp [g, List.getElem?_eq_getElem hi]
    split
    · rename_i h3
      have h4 : j < a := by simp [Cc.xorS] at h3; omega
      simp only [Cc.xorS, List.getElem_map, List.getElem_range]
      rw [gg _ _ hj, gg _ _ (by simp; omega), List.getElem_take]
    · rename_i h3
      have h4 : a ≤ j := by simp [Cc.xorS] at h3; omega
      simp only [Cc.xorS, List.getElem_map, List.getElem_range, List.length_map, List.length_range, List.length_take]
      rw [show min a L.length = a from by omega, gg _ _ hj, gg _ _ (by simp; omega), hf, List.getElem_drop]
      congr 2
      · congr 1; omega
      · omega
theorem parts_eq (key nonce : List Nat) (n b : Nat) (s : ByteArray) (hb : 64 * b ≤ s.size) :
    txt (Cc.xorS (Cc.sb key nonce n) (bytes s)) = txt (Cc.xorS (Cc.sb key nonce n) (bytes (s.extract 0 (64 * b)))) ++ txt (Cc.xorS (Cc.sb key nonce ((n + b) % 4294967296)) (bytes (s.extract (64 * b) s.size))) := by
  rw [← txt_append, bytes_extract, bytes_extract, List.drop_zero, Nat.sub_zero, List.take_of_length_le (l := (bytes s).drop (64 * b)) (by simp [bytes_len])]
  congr 1
  exact xorS_parts _ _ _ _ (by rw [bytes_len]; exact hb) (fun j => sb_on key nonce n b j)

set_option maxHeartbeats 1000000 in
theorem parts_walk (key nonce : List Nat) (n : Nat) (s : ByteArray) (b : Nat) (hk : key.length = 32) (hn : nonce.length = 12) (hkl : ∀ x ∈ key, x < 256) (hnl : ∀ x ∈ nonce, x < 256) (hnn : n < 4294967296)
    (hs : s.size ≤ 9223372036854775807) (hb : b ≤ 255) (w : World) :
    Calls Try.prog 6 #[.agg (caseA key nonce n), .string s, .int .u8 b] w fun e w' => e = .returned (.bool true) ∧ Below w.heap.size w w' := by
  have hc0 : CRow (w.alloc (.cells (caseA key nonce n) 31)) w.heap.size key nonce n := ⟨Row.new w _ 31, hk, hn, hkl, hnl, hnn⟩
  have hb0 := (Below.refl w.heap.size w).alloc (Nat.le_refl _) (.cells (caseA key nonce n) 31)
  clear hk hn hkl hnl
  by_cases hlt : 5000 < s.size ∨ s.size < 64 * b
  · by_cases hl2 : 5000 < s.size
    · have hd : decide ((5000 : Int) < s.size) = true := decide_eq_true (by omega)
      go_enter Try.func6, Try.ntmps6
      go_wp2_with fail
      refine (fixed_any _).mono ?_
      rintro e w1 ⟨rfl, hb1⟩
      go_wp2_with fail
      go_ret
      exact ⟨rfl, hb0.trans (hb1.mono hb0.size)⟩
    · have hd : decide ((5000 : Int) < s.size) = false := decide_eq_false (by omega)
      have hd2 : decide ((s.size : Int) < 64 * b) = true := decide_eq_true (by omega)
      go_enter Try.func6, Try.ntmps6
      go_wp2_with fail
      refine (fixed_any _).mono ?_
      rintro e w1 ⟨rfl, hb1⟩
      go_wp2_with fail
      go_ret
      exact ⟨rfl, hb0.trans (hb1.mono hb0.size)⟩
  · have hd : decide ((5000 : Int) < s.size) = false := decide_eq_false (by omega)
    have hd2 : decide ((s.size : Int) < 64 * b) = false := decide_eq_false (by omega)
    have hp := Sec.mk (parts_eq key nonce n b s (by omega))
    obtain ⟨x, hx⟩ : ∃ x, x = txt (Cc.xorS (Cc.sb key nonce n) (bytes (s.extract 0 (64 * b)))) := ⟨_, rfl⟩
    obtain ⟨y, hy⟩ : ∃ y, y = txt (Cc.xorS (Cc.sb key nonce ((n + b) % 4294967296)) (bytes (s.extract (64 * b) s.size))) := ⟨_, rfl⟩
    have hp' := hp.out
    have H1 := fun w => xor_c hc0 (s.extract 0 (64 * b)) (by simp; omega) n hnn w
    have H2 := fun w => xor_c hc0 (s.extract (64 * b) s.size) (by simp; omega) ((n + b) % 4294967296) (Nat.mod_lt _ (by decide)) w
    rw [← hx, ← hy] at hp'
    rw [← hx] at H1
    rw [← hy] at H2
    have hxs : x.size ≤ 5000 := by rw [hx, txt_size, Cc.xorS_len, bytes_len]; simp; omega
    have hys : y.size ≤ 5000 := by rw [hy, txt_size, Cc.xorS_len, bytes_len]; simp; omega
    clear hx hy hp
    have hp := Sec.mk hp'
    clear hp'
    replace H1 := Sec.mk H1
    replace H2 := Sec.mk H2
    go_enter Try.func6, Try.ntmps6
    go_upto_region 4 with (fail)
    refine wp_abs (fun W HW => ?_)
    rw [← HW.out] at hc0 hb0
    clear HW
    have CC : ∀ {f args v}, (∀ w, Calls Try.prog f args w fun e w' => e = .returned v ∧ Below w.heap.size w w') → ∀ w', Below W.heap.size W w' → Calls Try.prog f args w' fun e w'' => e = .returned v ∧ Below W.heap.size W w'' :=
      fun h w' hw' => (h w').mono fun _ _ ⟨h1, h2⟩ => ⟨h1, hw'.trans (h2.mono hw'.size)⟩
    have Rc := Sec.mk (fun w' (h : Below W.heap.size W w') => hc0.kept h hc0.row.lt)
    have g1 : (0 : Int) ≤ 64 * (b : Int) := by omega
    have g2 : 64 * (b : Int) ≤ s.size := by omega
    refine wp_region_below W.heap.size (by kernel_rfl) (by kernel_rfl) ?_
    refine wpQuiet_step (fun K hK => ?_)
    refine wq_value (v := .pointer (some ⟨w.heap.size, 0, none⟩)) rfl (fun _ _ => by go_simp; try rfl) ?_
    go_simp
    refine hK _ ?_
    clear hK K
    refine wpQuiet_step (fun K hK => ?_)
    refine wq_load_part rfl 23 (.tmp 23) rfl w.heap.size 0 rfl .u8 key (fun w' h => (Rc.out w' h).key_) ?_
    go_simp
    refine hK _ ?_
    clear hK K
    refine wpQuiet_step (fun K hK => ?_)
    refine wq_value (v := .pointer (some ⟨w.heap.size, 32, none⟩)) rfl (fun _ _ => by go_simp; try rfl) ?_
    go_simp
    refine hK _ ?_
    clear hK K
    refine wpQuiet_step (fun K hK => ?_)
    refine wq_load_part rfl 24 (.tmp 25) rfl w.heap.size 32 rfl .u8 nonce (fun w' h => (Rc.out w' h).nonce_) ?_
    go_simp
    refine hK _ ?_
    clear hK K
    refine wpQuiet_step (fun K hK => ?_)
    refine wq_value (v := .pointer (some ⟨w.heap.size, 44, none⟩)) rfl (fun _ _ => by go_simp; try rfl) ?_
    go_simp
    refine hK _ ?_
    clear hK K
    refine wpQuiet_step (fun K hK => ?_)
    refine wq_value (v := .int .u32 n) rfl (fun w' h => by have c := (Rc.out w' h).n_; go_simp; try rfl) ?_
    go_simp
    refine hK _ ?_
    clear hK K
    refine wpQuiet_step (fun K hK => ?_)
    refine wq_value (v := .string s) rfl (fun _ _ => by go_simp; try rfl) ?_
    go_simp
    refine hK _ ?_
    clear hK K
    refine wpQuiet_step (fun K hK => ?_)
    refine wq_value (v := .int .i64 (64 * (b : Int))) rfl (fun _ _ => by go_simp; try rfl) ?_
    go_simp
    refine hK _ ?_
    clear hK K
    refine wpQuiet_step (fun K hK => ?_)
    refine wq_value (v := .string (s.extract 0 (64 * b))) rfl (fun _ _ => by go_simp; try rfl) ?_
    go_simp
    refine hK _ ?_
    clear hK K
    refine wpQuiet_step (fun K hK => ?_)
    refine wq_call (f := 12) (args := #[.agg (vs .u8 key), .agg (vs .u8 nonce), .int .u32 n, .string (s.extract 0 (64 * b))]) (v := .string x) rfl (fun _ _ => by go_simp) (CC H1.out) ?_
    go_simp
    refine hK _ ?_
    clear hK K
    refine wpQuiet_step (fun K hK => ?_)
    refine wq_value (v := .string x) rfl (fun _ _ => by go_simp; try rfl) ?_
    go_simp
    refine hK _ ?_
    clear hK K
    refine wpQuiet_nil ?_
    intro w1 hw1
    have hc1 := hc0.kept hw1 hc0.row.lt
    have hb1 := hb0.trans (hw1.mono hb0.size)
    clear hw1 Rc CC hc0 hb0
    go_upto_region 5 with (fail)
    have CC : ∀ {f args v}, (∀ w, Calls Try.prog f args w fun e w' => e = .returned v ∧ Below w.heap.size w w') → ∀ w', Below w1.heap.size w1 w' → Calls Try.prog f args w' fun e w'' => e = .returned v ∧ Below w1.heap.size w1 w'' :=
      fun h w' hw' => (h w').mono fun _ _ ⟨h1, h2⟩ => ⟨h1, hw'.trans (h2.mono hw'.size)⟩
    have Rc := Sec.mk (fun w' (h : Below w1.heap.size w1 w') => hc1.kept h hc1.row.lt)
    have en : IntKind.u32.wrap ((n : Int) + b) = ((n + b) % 4294967296 : Nat) := by rw [IntKind.wrap_u32]; omega
    have eb : IntKind.u32.wrap (b : Int) = b := by rw [IntKind.wrap_u32]; omega
    refine wp_region_below w1.heap.size (by kernel_rfl) (by kernel_rfl) ?_
    refine wpQuiet_step (fun K hK => ?_)
    refine wq_value (v := .pointer (some ⟨w.heap.size, 0, none⟩)) rfl (fun _ _ => by go_simp; try rfl) ?_
    go_simp
    refine hK _ ?_
    clear hK K
    refine wpQuiet_step (fun K hK => ?_)
    refine wq_load_part rfl 23 (.tmp 33) rfl w.heap.size 0 rfl .u8 key (fun w' h => (Rc.out w' h).key_) ?_
    go_simp
    refine hK _ ?_
    clear hK K
    refine wpQuiet_step (fun K hK => ?_)
    refine wq_value (v := .pointer (some ⟨w.heap.size, 32, none⟩)) rfl (fun _ _ => by go_simp; try rfl) ?_
    go_simp
    refine hK _ ?_
    clear hK K
    refine wpQuiet_step (fun K hK => ?_)
    refine wq_load_part rfl 24 (.tmp 35) rfl w.heap.size 32 rfl .u8 nonce (fun w' h => (Rc.out w' h).nonce_) ?_
    go_simp
    refine hK _ ?_
    clear hK K
    refine wpQuiet_step (fun K hK => ?_)
    refine wq_value (v := .pointer (some ⟨w.heap.size, 44, none⟩)) rfl (fun _ _ => by go_simp; try rfl) ?_
    go_simp
    refine hK _ ?_
    clear hK K
    refine wpQuiet_step (fun K hK => ?_)
    refine wq_value (v := .int .u32 n) rfl (fun w' h => by have c := (Rc.out w' h).n_; go_simp; try rfl) ?_
    go_simp
    refine hK _ ?_
    clear hK K
    refine wpQuiet_step (fun K hK => ?_)
    refine wq_value (v := .int .u8 b) rfl (fun _ _ => by go_simp; try rfl) ?_
    go_simp
    refine hK _ ?_
    clear hK K
    refine wpQuiet_step (fun K hK => ?_)
    refine wq_value (v := .int .u32 b) rfl (fun _ _ => by go_simp; try rfl) ?_
    go_simp
    refine hK _ ?_
    clear hK K
    refine wpQuiet_step (fun K hK => ?_)
    refine wq_value (v := .int .u32 ((n + b) % 4294967296 : Nat)) rfl (fun _ _ => by go_simp; try rfl) ?_
    go_simp
    refine hK _ ?_
    clear hK K
    refine wpQuiet_step (fun K hK => ?_)
    refine wq_value (v := .string s) rfl (fun _ _ => by go_simp; try rfl) ?_
    go_simp
    refine hK _ ?_
    clear hK K
    refine wpQuiet_step (fun K hK => ?_)
    refine wq_value (v := .int .i64 (64 * (b : Int))) rfl (fun _ _ => by go_simp; try rfl) ?_
    go_simp
    refine hK _ ?_
    clear hK K
    refine wpQuiet_step (fun K hK => ?_)
    refine wq_value (v := .string (s.extract (64 * b) s.size)) rfl (fun _ _ => by go_simp; try rfl) ?_
    go_simp
    refine hK _ ?_
    clear hK K
    refine wpQuiet_step (fun K hK => ?_)
    refine wq_call (f := 12) (args := #[.agg (vs .u8 key), .agg (vs .u8 nonce), .int .u32 ((n + b) % 4294967296 : Nat), .string (s.extract (64 * b) s.size)]) (v := .string y) rfl (fun _ _ => by go_simp) (CC H2.out) ?_
    go_simp
    refine hK _ ?_
    clear hK K
    refine wpQuiet_step (fun K hK => ?_)
    refine wq_value (v := .string y) rfl (fun _ _ => by go_simp; try rfl) ?_
    go_simp
    refine hK _ ?_
    clear hK K
    refine wpQuiet_nil ?_
    intro w2 hw2
    have hc2 := hc1.kept hw2 hc1.row.lt
    have hb2 := hb1.trans (hw2.mono hb1.size)
    clear hw2 Rc CC hc1 hb1 H1 H2 en eb
    go_wp2_with fail
    refine (fixed_any _).mono ?_
    rintro e w3 ⟨rfl, hb3⟩
    have hc3 := hc2.kept hb3 hc2.row.lt
    have hb3' := hb2.trans (hb3.mono hb2.size)
    have k0 := hc3.key_
    have n0 := hc3.nonce_
    have m0 := hc3.n_
    clear hc2 hb2 hb3
    go_wp2_with (first
      | (refine wpList_load_part rfl 23 (.tmp 48) rfl w.heap.size 0 rfl .u8 key k0 ?_)
      | (refine wpList_load_part rfl 24 (.tmp 50) rfl w.heap.size 32 rfl .u8 nonce n0 ?_))
    refine (xor_c hc3 s hs n hnn _).mono ?_
    rintro e w4 ⟨rfl, hb4⟩
    rw [hp.out]
    go_wp2_with fail
    go_ret
    exact ⟨rfl, hb3'.trans (hb4.mono hb3'.size)⟩
end Go.Proofs.Ytgdjapcpgkflbaa
