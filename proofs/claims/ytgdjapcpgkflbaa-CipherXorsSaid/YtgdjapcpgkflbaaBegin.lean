/- The words that the program's block begins with. -/
import Derived.Test.YtgdjapcpgkflbaaRefB
namespace Go.Proofs.Ytgdjapcpgkflbaa
open Go.RowKit
open Cc (g)

theorem size38 {L : List Nat} (h : Cc.Ws L) : (Try.prog.info? 38).map (·.size) = some (vs .u32 L).size := by rw [vs_size, h.len]; kernel_rfl

theorem begin_start' (w : World) (key nonce : List Nat) : Blk w ((((w.alloc (.cells (vs .u8 key) 23)).alloc (.cells (vs .u8 nonce) 24)).alloc (.cells (Array.replicate 16 (.int .u32 0)) 38)).alloc (.cells
    #[.int .u32 1634760805, .int .u32 857760878, .int .u32 2036477234, .int .u32 1797285236, .int .u32 0, .int .u32 0, .int .u32 0, .int .u32 0, .int .u32 0, .int .u32 0, .int .u32 0, .int .u32 0, .int .u32 0, .int .u32 0, .int .u32 0, .int .u32 0] 38)) 38 16 38 .u32 key nonce (Cc.kw key 0) := by
  have := Blk.first w 38 38 .u32 key nonce (Cc.kw key 0) (Array.replicate 16 (.int .u32 0))
  rw [Cc.kw_start] at this ⊢
  exact this

set_option maxHeartbeats 1000000 in
theorem begin_any (key nonce : List Nat) (n : Nat) (hk : key.length = 32) (hn : nonce.length = 12) (hkl : ∀ x ∈ key, x < 256) (hnl : ∀ x ∈ nonce, x < 256) (hnn : n < 4294967296) (w : World) :
    Calls Try.prog 14 #[.agg (vs .u8 key), .agg (vs .u8 nonce), .int .u32 n] w fun e w' => e = .returned (.agg (vs .u32 (Cc.begin_ key nonce n))) ∧ Below w.heap.size w w' := by
  have hw := Cc.begin_ws hkl hnl hnn
  go_enter Try.func14, Try.ntmps14
  go_upto_block 0 with (fail)
  refine wp_abs (fun W0 HW0 => ?_)
  have hb0 : Blk w W0 38 16 38 .u32 key nonce (Cc.kw key 0) := by rw [HW0.out]; exact begin_start' w key nonce
  clear HW0
  go_cut [11] (fun _ wr => Blk w wr 38 16 38 .u32 key nonce (Cc.kw key 8))
  case first =>
    clear hn hnl hw
    as_aux_lemma =>
      go_wp2_with fail
      go_loopw [11] (fun v8 wr => ∃ k : Nat, k ≤ 8 ∧ v8 = .int .i64 k ∧ Blk w wr 38 16 38 .u32 key nonce (Cc.kw key k)) (fun v8 _ => 8 - (intOf v8).toNat)
      case atStart => exact ⟨0, by omega, rfl, hb0⟩
      case round =>
        clear hb0
        obtain ⟨k, hk8, rfl, hb⟩ := hrel
        by_cases hlt : k < 8
        · have hl := Cc.kw_len (key := key) (k := k) (by omega)
          have HW := Sec.mk (fun n (hn : 4 ≤ n) => word_any w.heap.size 23 key (4 * k) n n wr hkl hb.rk (by omega) hn)
          have hn' := Cc.kw_next key k (by omega)
          have hlt' := Cc.word_lt hkl (4 * k)
          generalize Cc.word key (4 * k) = x at *
          have hbn := hb.set (4 + k) x
          rw [hn'] at hbn
          clear hn'
          have hc := hb.rw_.cell (i := 4 + k) (by omega)
          have hf := hb.rw_.free (4 + k)
          have hsl := run_sliceAt_low Try.underlying23 (by kernel_rfl) w.heap.size (4 * k) (4 * (k : Int)) (by omega) (by omega) wr
          go_wp2_with fail
          refine (HW.out _ (by omega)).mono ?_
          rintro e w1 ⟨rfl, m, rfl⟩
          go_wp2_with fail
          go_roundw
          case rel => exact ⟨k + 1, by omega, by go_num, hbn.drewN m⟩
          case measure => simp [intOf]; omega
        · rw [show k = 8 from by omega] at hb
          go_wp2_with fail
          go_meet
          exact hb
  case rest =>
    clear hb0
    have hc := hcut.rw_.cell (i := 12) (by rw [Cc.kw_len (by omega)]; omega)
    have hf := hcut.rw_.free 12
    have hbn := hcut.set 12 n
    rw [Cc.kw_n key nonce n] at hbn
    go_upto_block 2 with (fail)
    refine wp_abs (fun W1 HW1 => ?_)
    rw [← HW1.out] at hbn
    clear HW1 hc hf hcut
    go_cut [24] (fun _ wr => Blk w wr 38 16 38 .u32 key nonce (Cc.begin_ key nonce n))
    case first =>
      clear hk hkl hw
      as_aux_lemma =>
        go_wp2_with fail
        go_loopw [24] (fun v9 wr => ∃ k : Nat, k ≤ 3 ∧ v9 = .int .i64 k ∧ Blk w wr 38 16 38 .u32 key nonce (Cc.nw key nonce n k)) (fun v9 _ => 3 - (intOf v9).toNat)
        case atStart => exact ⟨0, by omega, rfl, hbn⟩
        case round =>
          clear hbn
          obtain ⟨k, hk8, rfl, hb⟩ := hrel
          by_cases hlt : k < 3
          · have hl := Cc.nw_len (key := key) (nonce := nonce) (n := n) (k := k) (by omega)
            have HW := Sec.mk (fun n (hn : 4 ≤ n) => word_any (w.heap.size + 1) 24 nonce (4 * k) n n wr hnl hb.rn (by omega) hn)
            have hn' := Cc.nw_next key nonce n k (by omega)
            have hlt' := Cc.word_lt hnl (4 * k)
            generalize Cc.word nonce (4 * k) = x at *
            have hbn := hb.set (13 + k) x
            rw [hn'] at hbn
            clear hn'
            have hc := hb.rw_.cell (i := 13 + k) (by omega)
            have hf := hb.rw_.free (13 + k)
            have hsl := run_sliceAt_low Try.underlying24 (by kernel_rfl) (w.heap.size + 1) (4 * k) (4 * (k : Int)) (by omega) (by omega) wr
            go_wp2_with fail
            refine (HW.out _ (by omega)).mono ?_
            rintro e w1 ⟨rfl, m, rfl⟩
            go_wp2_with fail
            go_roundw
            case rel => exact ⟨k + 1, by omega, by go_num, hbn.drewN m⟩
            case measure => simp [intOf]; omega
          · rw [show k = 3 from by omega, Cc.nw_done] at hb
            go_wp2_with fail
            go_meet
            exact hb
    case rest =>
      clear hbn
      obtain ⟨Z, hZ, hr⟩ := hcut.rr
      have hbw := hcut.below
      go_wp2_with (first
        | (refine wpList_load_row rfl 38 (.tmp 7) rfl (w.heap.size + 1 + 1 + 1) rfl 38 (vs .u32 (Cc.begin_ key nonce n)) (0, 0) _ hcut.rw_ Try.underlying38 rfl (size38 hw) ?_)
        | (refine wpList_store_row rfl 38 (.tmp 6) (.tmp 35) rfl (w.heap.size + 1 + 1) (vs .u32 (Cc.begin_ key nonce n)) rfl rfl 38 _ hr (size38 hw) (by rw [hZ, size16 hw]) (vs_all _ _) ?_))
      refine bodyPost_ret (results_cell_row rfl _ _ (w.heap.size + 1 + 1) _ _ _ _ rfl hr.row Try.underlying38 rfl (size38 hw)) rfl ⟨rfl, below_row hbw (by omega) _⟩
end Go.Proofs.Ytgdjapcpgkflbaa
