/- CipherBack: its walk. -/
import Derived.Test.YtgdjapcpgkflbaaCase
namespace Go.Proofs.Ytgdjapcpgkflbaa
open Go.RowKit
open Cc (g)

theorem xor_c {w : World} {b : Nat} {key nonce : List Nat} {n : Nat} (h : CRow w b key nonce n) (s : ByteArray) (hs : s.size ≤ 9223372036854775807) (m : Nat) (hm : m < 4294967296) (W : World) :
    Calls Try.prog 12 #[.agg (vs .u8 key), .agg (vs .u8 nonce), .int .u32 m, .string s] W fun e w' => e = .returned (.string (txt (Cc.xorS (Cc.sb key nonce m) (bytes s)))) ∧ Below W.heap.size W w' :=
  xor_any key nonce m s h.hk h.hn h.hkl h.hnl hm hs W
theorem back_eq (f : Nat → Nat) (hf : ∀ i, f i < 256) (s : ByteArray) : txt (Cc.xorS f (bytes (txt (Cc.xorS f (bytes s))))) = s := by
  rw [bytes_txt (Cc.xorS_lt hf (bytes_lt s)), Cc.xorS_back, txt_bytes]

set_option maxHeartbeats 1000000 in
theorem back_walk (key nonce : List Nat) (n : Nat) (s : ByteArray) (hk : key.length = 32) (hn : nonce.length = 12) (hkl : ∀ x ∈ key, x < 256) (hnl : ∀ x ∈ nonce, x < 256) (hnn : n < 4294967296)
    (hs : s.size ≤ 9223372036854775807) (w : World) :
    Calls Try.prog 5 #[.agg (caseA key nonce n), .string s] w fun e w' => e = .returned (.bool true) ∧ Below w.heap.size w w' := by
  have hbk := Sec.mk (back_eq (Cc.sb key nonce n) (Cc.sb_lt key nonce n) s)
  obtain ⟨x, hx⟩ : ∃ x, x = txt (Cc.xorS (Cc.sb key nonce n) (bytes s)) := ⟨_, rfl⟩
  have hxs : x.size = s.size := by rw [hx, txt_size, Cc.xorS_len, bytes_len]
  have hc0 : CRow (w.alloc (.cells (caseA key nonce n) 31)) w.heap.size key nonce n := ⟨Row.new w _ 31, hk, hn, hkl, hnl, hnn⟩
  have hb0 := (Below.refl w.heap.size w).alloc (Nat.le_refl _) (.cells (caseA key nonce n) 31)
  have hx' := Sec.mk hx
  clear hx hk hn hkl hnl
  by_cases hlt : 5000 < s.size
  · have hd : (5000 : Int) < s.size := by omega
    go_enter Try.func5, Try.ntmps5
    go_wp2_with fail
    refine (fixed_any _).mono ?_
    rintro e w1 ⟨rfl, hb1⟩
    go_wp2_with fail
    go_ret
    exact ⟨rfl, hb0.trans (hb1.mono hb0.size)⟩
  · have hd : ¬ (5000 : Int) < s.size := by omega
    go_enter Try.func5, Try.ntmps5
    go_upto_region 3 with (fail)
    refine wp_abs (fun W HW => ?_)
    rw [← HW.out] at hc0 hb0
    clear HW
    have k0 := hc0.key_
    have n0 := hc0.nonce_
    have m0 := hc0.n_
    go_wp2_with (first
      | (refine wpList_load_part rfl 23 (.tmp 10) rfl w.heap.size 0 rfl .u8 key k0 ?_)
      | (refine wpList_load_part rfl 24 (.tmp 12) rfl w.heap.size 32 rfl .u8 nonce n0 ?_))
    refine (xor_c hc0 s hs n hnn _).mono ?_
    rintro e w1 ⟨rfl, hb1⟩
    rw [← hx'.out]
    have hc1 := hc0.kept hb1 hc0.row.lt
    have hb1' := hb0.trans (hb1.mono hb0.size)
    clear hc0 hb0 hb1 k0 n0 m0
    go_wp2_with fail
    refine (fixed_any _).mono ?_
    rintro e w2 ⟨rfl, hb2⟩
    have hc2 := hc1.kept hb2 hc1.row.lt
    have hb2' := hb1'.trans (hb2.mono hb1'.size)
    have k0 := hc2.key_
    have n0 := hc2.nonce_
    have m0 := hc2.n_
    have hxi : ((x.size : Int) == s.size) = true := by rw [beq_iff_eq]; omega
    clear hc1 hb1' hb2
    go_wp2_with (first
      | (refine wpList_load_part rfl 23 (.tmp 27) rfl w.heap.size 0 rfl .u8 key k0 ?_)
      | (refine wpList_load_part rfl 24 (.tmp 29) rfl w.heap.size 32 rfl .u8 nonce n0 ?_))
    refine (xor_c hc2 x (by omega) n hnn _).mono ?_
    rintro e w3 ⟨rfl, hb3⟩
    have hbk' : txt (Cc.xorS (Cc.sb key nonce n) (bytes x)) = s := by rw [hx'.out]; exact hbk.out
    rw [hbk']
    clear hbk' hx' hbk
    go_wp2_with fail
    go_ret
    exact ⟨rfl, hb2'.trans (hb3.mono hb2'.size)⟩
end Go.Proofs.Ytgdjapcpgkflbaa
