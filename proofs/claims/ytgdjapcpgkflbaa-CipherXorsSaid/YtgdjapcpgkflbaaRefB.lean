/- The reference's block. -/
import Derived.Test.YtgdjapcpgkflbaaRef
import Derived.Deep.DeepCutAuto
import Derived.Deep.CutBlock
namespace Go.Proofs.Ytgdjapcpgkflbaa
open Go.RowKit
open Cc (g)

/-- Key and nonce in memory, the result's row, and the row of words. -/
structure Blk (w wr : World) (tr sz tw : Nat) (kw : IntKind) (key nonce W : List Nat) : Prop where
  rk : Row wr w.heap.size 23 (vs .u8 key)
  rn : Row wr (w.heap.size + 1) 24 (vs .u8 nonce)
  rr : ∃ Z : Array Value, Z.size = sz ∧ Row wr (w.heap.size + 1 + 1) tr Z
  rw_ : Row wr (w.heap.size + 1 + 1 + 1) tw (vs kw W)
  below : Below w.heap.size w wr
namespace Blk
variable {w wr : World} {tr sz tw : Nat} {kw : IntKind} {key nonce W : List Nat}
theorem first (w : World) (tr tw : Nat) (kw : IntKind) (key nonce W : List Nat) (Z : Array Value) :
    Blk w ((((w.alloc (.cells (vs .u8 key) 23)).alloc (.cells (vs .u8 nonce) 24)).alloc (.cells Z tr)).alloc (.cells (vs kw W) tw)) tr Z.size tw kw key nonce W := by
  have h2 := Row.new ((w.alloc (.cells (vs .u8 key) 23)).alloc (.cells (vs .u8 nonce) 24)) Z tr
  have h3 := Row.new (((w.alloc (.cells (vs .u8 key) 23)).alloc (.cells (vs .u8 nonce) 24)).alloc (.cells Z tr)) (vs kw W) tw
  rw [size_alloc, size_alloc] at h2
  rw [size_alloc, size_alloc, size_alloc] at h3
  refine ⟨(((Row.new w _ _).alloc _).alloc _).alloc _, ((Row.new1 w _ _ _).alloc _).alloc _, ⟨Z, rfl, h2.alloc _⟩, h3, ?_⟩
  have b1 := (Below.refl w.heap.size w).alloc (Nat.le_refl _) (.cells (vs .u8 key) 23)
  have b2 := b1.alloc b1.size (.cells (vs .u8 nonce) 24)
  have b3 := b2.alloc b2.size (.cells Z tr)
  exact b3.alloc b3.size (.cells (vs kw W) tw)
theorem lt (h : Blk w wr tr sz tw kw key nonce W) : w.heap.size + 1 + 1 + 1 < wr.heap.size := h.rw_.lt
theorem kept (h : Blk w wr tr sz tw kw key nonce W) {w2 : World} (hb : Below wr.heap.size wr w2) : Blk w w2 tr sz tw kw key nonce W := by
  have hl := h.lt
  obtain ⟨Z, hZ, hr⟩ := h.rr
  exact ⟨h.rk.below hb (by omega), h.rn.below hb (by omega), ⟨Z, hZ, hr.below hb (by omega)⟩, h.rw_.below hb (by omega), h.below.trans (hb.mono (by omega))⟩
theorem set (h : Blk w wr tr sz tw kw key nonce W) (i v : Nat) : Blk w (wr.setCell ⟨w.heap.size + 1 + 1 + 1, i, none⟩ (.int kw (v : Int))) tr sz tw kw key nonce (W.set i v) := by
  obtain ⟨Z, hZ, hr⟩ := h.rr
  exact ⟨h.rk.aside (by show _ ≠ _ + 1 + 1 + 1; omega) _, h.rn.aside (by show _ ≠ _ + 1 + 1 + 1; omega) _, ⟨Z, hZ, hr.aside (by show _ ≠ _ + 1 + 1 + 1; omega) _⟩, h.rw_.set i v, h.below.setCell (by show _ ≤ _ + 1 + 1 + 1; omega) _⟩
theorem drewN (h : Blk w wr tr sz tw kw key nonce W) (m : Nat) : Blk w (wr.drewN m) tr sz tw kw key nonce W := ⟨h.rk, h.rn, h.rr, h.rw_, below_drewN' h.below m⟩
theorem alloc (h : Blk w wr tr sz tw kw key nonce W) (o : Obj) : Blk w (wr.alloc o) tr sz tw kw key nonce W := h.kept ((Below.refl _ _).alloc (Nat.le_refl _) o)
/-- A row of our own beyond these is written whole. -/
theorem other (h : Blk w wr tr sz tw kw key nonce W) {b : Nat} (hb : w.heap.size + 1 + 1 + 1 < b) (A : Array Value) : Blk w (wr.setRow b A) tr sz tw kw key nonce W := by
  obtain ⟨Z, hZ, hr⟩ := h.rr
  exact ⟨h.rk.rowOther (by omega) _, h.rn.rowOther (by omega) _, ⟨Z, hZ, hr.rowOther (by omega) _⟩, h.rw_.rowOther (by omega) _, below_row h.below (by omega) _⟩
theorem otherCell (h : Blk w wr tr sz tw kw key nonce W) {b : Nat} (hb : w.heap.size + 1 + 1 + 1 < b) (i : Nat) (v : Value) : Blk w (wr.setCell ⟨b, i, none⟩ v) tr sz tw kw key nonce W := by
  obtain ⟨Z, hZ, hr⟩ := h.rr
  exact ⟨h.rk.aside (by show _ ≠ b; omega) _, h.rn.aside (by show _ ≠ b; omega) _, ⟨Z, hZ, hr.aside (by show _ ≠ b; omega) _⟩, h.rw_.aside (by show _ ≠ b; omega) _, h.below.setCell (by show _ ≤ b; omega) _⟩
end Blk

/-- .. and the row that the rounds turn. -/
structure XB (w wr : World) (tr tw : Nat) (kw : IntKind) (X : Nat) (key nonce W L : List Nat) : Prop where
  blk : Blk w wr tr 64 tw kw key nonce W
  far : w.heap.size + 1 + 1 + 1 < X
  row : Row wr X tw (vs kw L)
theorem XB.kept {w wr w2 : World} {tr tw X : Nat} {kw : IntKind} {key nonce W L : List Nat} (h : XB w wr tr tw kw X key nonce W L) (hb : Below wr.heap.size wr w2) : XB w w2 tr tw kw X key nonce W L :=
  ⟨h.blk.kept hb, h.far, h.row.below hb h.row.lt⟩
theorem XB.whole {w wr : World} {tr tw X : Nat} {kw : IntKind} {key nonce W L : List Nat} (h : XB w wr tr tw kw X key nonce W L) (L' : List Nat) : XB w (wr.setRow X (vs kw L')) tr tw kw X key nonce W L' :=
  ⟨h.blk.other h.far _, h.far, h.row.row⟩

theorem XB.otherCell {w wr : World} {tr tw X : Nat} {kw : IntKind} {key nonce W L : List Nat} (h : XB w wr tr tw kw X key nonce W L) {b : Nat} (hb : w.heap.size + 1 + 1 + 1 < b) (hX : X ≠ b) (i : Nat) (v : Value) : XB w (wr.setCell ⟨b, i, none⟩ v) tr tw kw X key nonce W L :=
  ⟨h.blk.otherCell hb i v, h.far, h.row.aside hX v⟩
theorem XB.drewN {w wr : World} {tr tw X : Nat} {kw : IntKind} {key nonce W L : List Nat} (h : XB w wr tr tw kw X key nonce W L) (m : Nat) : XB w (wr.drewN m) tr tw kw X key nonce W L :=
  ⟨h.blk.drewN m, h.far, h.row⟩
theorem div_next (y b : Nat) : y / 2 ^ (8 * b) / 256 = y / 2 ^ (8 * (b + 1)) := by
  rw [Nat.div_div_eq_div_mul, show (256 : Nat) = 2 ^ 8 from rfl, ← Nat.pow_add, Nat.mul_add]
theorem div_zero' (y : Nat) : y / 2 ^ (8 * 0) = y := by simp

theorem rcol (L : List Nat) (hL : Cc.Ws L) (j : Nat) (hj : j < 4) (w : World) :
    Calls Try.prog 18 #[.agg (vs .u64 L), .int .i64 j, .int .i64 (4 + (j : Int)), .int .i64 (8 + (j : Int)), .int .i64 (12 + (j : Int))] w
      fun e w' => e = .returned (.agg (vs .u64 (Cc.step L j (4 + j) (8 + j) (12 + j)))) ∧ Below w.heap.size w w' := by
  have := rstep_any L hL j (4 + j) (8 + j) (12 + j) w hj (by omega) (by omega) (by omega) (by omega) (by omega) (by omega)
  push_cast at this
  exact this
theorem rdiag (L : List Nat) (hL : Cc.Ws L) (j : Nat) (hj : j < 4) (w : World) :
    Calls Try.prog 18 #[.agg (vs .u64 L), .int .i64 j, .int .i64 (4 + ((j : Int) + 1) % 4), .int .i64 (8 + ((j : Int) + 2) % 4), .int .i64 (12 + ((j : Int) + 3) % 4)] w
      fun e w' => e = .returned (.agg (vs .u64 (Cc.step L j (4 + (j + 1) % 4) (8 + (j + 2) % 4) (12 + (j + 3) % 4)))) ∧ Below w.heap.size w w' := by
  have := rstep_any L hL j (4 + (j + 1) % 4) (8 + (j + 2) % 4) (12 + (j + 3) % 4) w hj (by omega) (by omega) (by omega) (by omega) (by omega) (by omega)
  push_cast at this
  exact this

theorem begin_start (w : World) (key nonce : List Nat) : Blk w ((((w.alloc (.cells (vs .u8 key) 23)).alloc (.cells (vs .u8 nonce) 24)).alloc (.cells (Array.replicate 64 (.int .u8 0)) 27)).alloc (.cells
    #[.int .u64 1634760805, .int .u64 857760878, .int .u64 2036477234, .int .u64 1797285236, .int .u64 0, .int .u64 0, .int .u64 0, .int .u64 0, .int .u64 0, .int .u64 0, .int .u64 0, .int .u64 0, .int .u64 0, .int .u64 0, .int .u64 0, .int .u64 0] 45)) 27 64 45 .u64 key nonce (Cc.kw key 0) := by
  have := Blk.first w 27 45 .u64 key nonce (Cc.kw key 0) (Array.replicate 64 (.int .u8 0))
  rw [Cc.kw_start] at this ⊢
  exact this

set_option maxRecDepth 100000 in
set_option maxHeartbeats 1000000 in
theorem rblock_any (key nonce : List Nat) (n : Nat) (hk : key.length = 32) (hn : nonce.length = 12) (hkl : ∀ x ∈ key, x < 256) (hnl : ∀ x ∈ nonce, x < 256) (hnn : n < 4294967296) (w : World) :
    Calls Try.prog 11 #[.agg (vs .u8 key), .agg (vs .u8 nonce), .int .u32 n] w fun e w' => e = .returned (.agg (vs .u8 (Cc.block key nonce n))) ∧ Below w.heap.size w w' := by
  have hw := Cc.begin_ws hkl hnl hnn
  go_enter Try.func11, Try.ntmps11
  go_upto_block 0 with (fail)
  refine wp_abs (fun W0 HW0 => ?_)
  have hb0 : Blk w W0 27 64 45 .u64 key nonce (Cc.kw key 0) := by rw [HW0.out]; exact begin_start w key nonce
  clear HW0
  go_cut [8] (fun _ wr => Blk w wr 27 64 45 .u64 key nonce (Cc.kw key 8))
  case first =>
    clear hn hnl hw
    as_aux_lemma =>
      go_wp2_with fail
      go_loopw [8] (fun v8 wr => ∃ k : Nat, k ≤ 8 ∧ v8 = .int .i64 k ∧ Blk w wr 27 64 45 .u64 key nonce (Cc.kw key k)) (fun v8 _ => 8 - (intOf v8).toNat)
      case atStart => exact ⟨0, by omega, rfl, hb0⟩
      case round =>
        obtain ⟨k, hk8, rfl, hb⟩ := hrel
        by_cases hlt : k < 8
        · have hl := Cc.kw_len (key := key) (k := k) (by omega)
          have hcv := run_text_of_row Try.underlying36 Try.underlying5 Try.underlying9 hb.rk (o := 0) (n := 32) (by omega) 32
          rw [List.drop_zero, List.take_of_length_le (by omega)] at hcv
          have HW := rword_any (txt key) key (bytes_txt hkl) (4 * k) wr (by omega) (by omega)
          have hn' := Cc.kw_next key k (by omega)
          have hlt' := Cc.word_lt hkl (4 * k)
          generalize Cc.word key (4 * k) = x at *
          have hbn := hb.set (4 + k) x
          rw [hn'] at hbn
          clear hn'
          have hc := hb.rw_.cell (i := 4 + k) (by omega)
          have hf := hb.rw_.free (4 + k)
          go_wp2_with fail
          refine HW.mono ?_
          rintro e w1 ⟨rfl, m, rfl⟩
          go_wp2_with fail
          go_roundw
          case rel => exact ⟨k + 1, by omega, by go_num, hbn.drewN m⟩
          case measure => simp [intOf]; omega
        · rw [show k = 8 from by omega] at hb
          go_wp2_with fail
          go_meet
          exact hb
  case rest =>
    clear hb0
    have hc := hcut.rw_.cell (i := 12) (by rw [Cc.kw_len (by omega)]; omega)
    have hf := hcut.rw_.free 12
    have hbn := hcut.set 12 n
    rw [Cc.kw_n key nonce n] at hbn
    go_upto_block 2 with (fail)
    refine wp_abs (fun W1 HW1 => ?_)
    rw [← HW1.out] at hbn
    clear HW1 hc hf hcut
    go_cut [9] (fun _ wr => Blk w wr 27 64 45 .u64 key nonce (Cc.begin_ key nonce n))
    case first =>
      clear hk hkl hw
      as_aux_lemma =>
        go_wp2_with fail
        go_loopw [9] (fun v9 wr => ∃ k : Nat, k ≤ 3 ∧ v9 = .int .i64 k ∧ Blk w wr 27 64 45 .u64 key nonce (Cc.nw key nonce n k)) (fun v9 _ => 3 - (intOf v9).toNat)
        case atStart => exact ⟨0, by omega, rfl, hbn⟩
        case round =>
          obtain ⟨k, hk8, rfl, hb⟩ := hrel
          by_cases hlt : k < 3
          · have hl := Cc.nw_len (key := key) (nonce := nonce) (n := n) (k := k) (by omega)
            have hcv := run_text_of_row Try.underlying36 Try.underlying5 Try.underlying9 hb.rn (o := 0) (n := 12) (by omega) 12
            rw [List.drop_zero, List.take_of_length_le (by omega)] at hcv
            have HW := rword_any (txt nonce) nonce (bytes_txt hnl) (4 * k) wr (by omega) (by omega)
            have hn' := Cc.nw_next key nonce n k (by omega)
            have hlt' := Cc.word_lt hnl (4 * k)
            generalize Cc.word nonce (4 * k) = x at *
            have hbn := hb.set (13 + k) x
            rw [hn'] at hbn
            clear hn'
            have hc := hb.rw_.cell (i := 13 + k) (by omega)
            have hf := hb.rw_.free (13 + k)
            go_wp2_with fail
            refine HW.mono ?_
            rintro e w1 ⟨rfl, m, rfl⟩
            go_wp2_with fail
            go_roundw
            case rel => exact ⟨k + 1, by omega, by go_num, hbn.drewN m⟩
            case measure => simp [intOf]; omega
          · rw [show k = 3 from by omega, Cc.nw_done] at hb
            go_wp2_with fail
            go_meet
            exact hb
    case rest =>
      clear hbn
      have hbl := Sec.mk (show Cc.ow (Cc.rounds (Cc.begin_ key nonce n) 10) (Cc.begin_ key nonce n) 64 = Cc.block key nonce n from Cc.ow_done key nonce n)
      generalize Cc.begin_ key nonce n = B0 at *
      go_upto_block 4 with (first
        | (refine wpList_load_row rfl 45 (.tmp 7) rfl (w.heap.size + 1 + 1 + 1) rfl 45 (vs .u64 B0) (0, 0) _ hcut.rw_ Try.underlying45 rfl (size45 hw) ?_)
        | (refine wpList_store_row rfl 45 (.tmp 10) (.tmp 46) rfl wc.heap.size (vs .u64 B0) rfl rfl 45 _ (Row.new wc _ 45) (size45 hw) (by rw [size16 hw]; rfl) (vs_all _ _) ?_))
      refine wp_abs (fun W2 HW2 => ?_)
      have hx0 : XB w W2 27 45 .u64 wc.heap.size key nonce B0 (Cc.rounds B0 0) := by
        rw [HW2.out, Cc.rounds_zero]
        exact ⟨(hcut.alloc _).other hcut.lt _, hcut.lt, (Row.new wc _ 45).row⟩
      clear HW2 hcut
      generalize wc.heap.size = X at hx0 ⊢
      go_cut [11] (fun _ w3 => XB w w3 27 45 .u64 X key nonce B0 (Cc.rounds B0 10))
      case first =>
        clear hk hn hkl hnl hnn hbl
        as_aux_lemma =>
          go_wp2_with fail
          go_loopw [11] (fun v11 w3 => ∃ r : Nat, r ≤ 10 ∧ v11 = .int .i64 r ∧ XB w w3 27 45 .u64 X key nonce B0 (Cc.rounds B0 r)) (fun v11 _ => 10 - (intOf v11).toNat)
          case atStart => exact ⟨0, by omega, rfl, hx0⟩
          case round =>
            clear hx0
            obtain ⟨r, hr, rfl, hx⟩ := hrel
            have hL := hw.rounds r
            by_cases hlt : r < 10
            · have hd : decide ((r : Int) < 10) = true := decide_eq_true (by omega)
              have hn' := Cc.rounds_succ B0 r
              obtain ⟨L, hLe⟩ : ∃ L, L = Cc.rounds B0 r := ⟨_, rfl⟩
              rw [← hLe] at hx hL hn'
              clear hLe
              have HN := Sec.mk hn'
              clear hn'
              go_upto_block 6 with (fail)
              go_cut [12] (fun _ w4 => XB w w4 27 45 .u64 X key nonce B0 (Cc.cols L 4))
              case first =>
                clear hw HN
                as_aux_lemma =>
                  go_wp2_with fail
                  go_loopw [12] (fun v12 w4 => ∃ j : Nat, j ≤ 4 ∧ v12 = .int .i64 j ∧ XB w w4 27 45 .u64 X key nonce B0 (Cc.cols L j)) (fun v12 _ => 4 - (intOf v12).toNat)
                  case atStart => exact ⟨0, by omega, rfl, by rw [Cc.cols_zero]; exact hx⟩
                  case round =>
                    clear hx
                    obtain ⟨j, hj, rfl, hx⟩ := hrel
                    by_cases hlt : j < 4
                    · have hLj := hL.cols j
                      have H := fun w => rcol (Cc.cols L j) hLj j hlt w
                      have hLn := hL.cols (j + 1)
                      have hn' := (Cc.cols_succ L j).symm
                      rw [hn'] at H
                      replace H := Sec.mk H
                      clear hn'
                      go_wp2_with (refine wpList_load_row rfl 45 (.tmp 10) rfl X rfl 45 (vs .u64 (Cc.cols L j)) (0, 0) _ hx.row Try.underlying45 rfl (size45 hLj) ?_)
                      refine (H.out _).mono ?_
                      rintro e w5 ⟨rfl, hb5⟩
                      have hx5 := hx.kept hb5
                      go_wp2_with (refine wpList_store_row rfl 45 (.tmp 10) (.tmp 63) rfl X (vs .u64 (Cc.cols L (j + 1))) rfl rfl 45 _ hx5.row (size45 hLn) (by rw [size16 hLj, size16 hLn]) (vs_all _ _) ?_)
                      go_roundw
                      case rel => exact ⟨j + 1, by omega, by go_num, hx5.whole _⟩
                      case measure => simp [intOf]; omega
                    · rw [show j = 4 from by omega] at hx
                      go_wp2_with fail
                      go_meet
                      exact hx
              case rest =>
                clear hx
                have hL4 := hL.cols 4
                obtain ⟨L4, hLe⟩ : ∃ L4, L4 = Cc.cols L 4 := ⟨_, rfl⟩
                have HN' := HN.out
                rw [← hLe] at hcut hL4 HN'
                clear hLe HN hL
                have HN := Sec.mk HN'
                clear HN'
                go_wp2_with fail
                go_loopw [13] (fun v13 w4 => ∃ j : Nat, j ≤ 4 ∧ v13 = .int .i64 j ∧ XB w w4 27 45 .u64 X key nonce B0 (Cc.diags L4 j)) (fun v13 _ => 4 - (intOf v13).toNat)
                case atStart => exact ⟨0, by omega, rfl, by rw [Cc.diags_zero]; exact hcut⟩
                case round =>
                  clear hcut
                  obtain ⟨j, hj, rfl, hx⟩ := hrel
                  by_cases hlt : j < 4
                  · clear hw HN
                    as_aux_lemma =>
                      have hLj := hL4.diags j
                      have H := fun w => rdiag (Cc.diags L4 j) hLj j hlt w
                      have hLn := hL4.diags (j + 1)
                      have hn' := (Cc.diags_succ L4 j).symm
                      rw [hn'] at H
                      replace H := Sec.mk H
                      clear hn'
                      go_wp2_with (refine wpList_load_row rfl 45 (.tmp 10) rfl X rfl 45 (vs .u64 (Cc.diags L4 j)) (0, 0) _ hx.row Try.underlying45 rfl (size45 hLj) ?_)
                      refine (H.out _).mono ?_
                      rintro e w5 ⟨rfl, hb5⟩
                      have hx5 := hx.kept hb5
                      go_wp2_with (refine wpList_store_row rfl 45 (.tmp 10) (.tmp 82) rfl X (vs .u64 (Cc.diags L4 (j + 1))) rfl rfl 45 _ hx5.row (size45 hLn) (by rw [size16 hLj, size16 hLn]) (vs_all _ _) ?_)
                      go_roundw
                      case rel => exact ⟨j + 1, by omega, by go_num, hx5.whole _⟩
                      case measure => simp [intOf]; omega
                  · have hd2 : decide ((j : Int) < 4) = false := decide_eq_false (by omega)
                    rw [show j = 4 from by omega, ← HN.out] at hx
                    go_wp2_with fail
                    go_roundw
                    case rel => exact ⟨r + 1, by omega, by go_num, hx⟩
                    case measure => simp [intOf]; omega
            · rw [show r = 10 from by omega] at hx
              go_wp2_with fail
              go_meet
              exact hx
      case rest =>
        clear hx0
        have hL := hw.rounds 10
        generalize Cc.rounds B0 10 = L at *
        go_upto_block 10 with (refine wpList_store_row rfl 27 (.tmp 14) (.tmp 83) rfl wc.heap.size (vs .u8 (List.replicate 64 0)) rfl rfl 27 _ (Row.new wc _ 27) (by rw [vs_size]; kernel_rfl) (by rw [vs_size]; rfl) (vs_all _ _) ?_)
        refine wp_abs (fun W3 HW3 => ?_)
        have hx1 : XB w W3 27 45 .u64 X key nonce B0 L := by
          rw [HW3.out]
          exact ⟨(hcut.blk.alloc _).other hcut.blk.lt _, hcut.far, (hcut.row.alloc _).rowOther (Nat.ne_of_lt hcut.row.lt) _⟩
        have hO : Row W3 wc.heap.size 27 (vs .u8 (Cc.ow L B0 0)) := by
          rw [HW3.out, show Cc.ow L B0 0 = List.replicate 64 0 from by simp [Cc.ow]]
          exact (Row.new wc _ 27).row
        have hOX : X ≠ wc.heap.size := Nat.ne_of_lt hcut.row.lt
        have hOB : w.heap.size + 1 + 1 + 1 < wc.heap.size := hcut.blk.lt
        clear HW3 hcut
        generalize wc.heap.size = O at hO hOX hOB ⊢
        go_cut [15] (fun _ w3 => XB w w3 27 45 .u64 X key nonce B0 L ∧ Row w3 O 27 (vs .u8 (Cc.ow L B0 64)))
        case first =>
          clear hk hn hkl hnl hnn hbl
          as_aux_lemma =>
            go_wp2_with fail
            go_loopw [15] (fun v15 w3 => ∃ i : Nat, i ≤ 16 ∧ v15 = .int .i64 i ∧ XB w w3 27 45 .u64 X key nonce B0 L ∧ Row w3 O 27 (vs .u8 (Cc.ow L B0 (4 * i)))) (fun v15 _ => 16 - (intOf v15).toNat)
            case atStart => exact ⟨0, by omega, rfl, hx1, hO⟩
            case round =>
              clear hx1 hO
              obtain ⟨i, hi, rfl, hx, hO⟩ := hrel
              by_cases hlt : i < 16
              · have hd : decide ((i : Int) < 16) = true := decide_eq_true (by omega)
                have hi16 : (i : Int) < 16 := by omega
                have cx := hx.row.cell (i := i) (by rw [hL.len]; omega)
                have cw := hx.blk.rw_.cell (i := i) (by rw [hw.len]; omega)
                have lx := hL.lt i
                have lw := hw.lt i
                have hob := Sec.mk (fun j (hj : j < 4) => Cc.outb_at L B0 i j hj)
                have hadd := Cc.add_lt (g L i) (g B0 i)
                have HA := Sec.mk (fun w => calls_flip (radd_any (g L i) (g B0 i) w lx lw))
                generalize Cc.add (g L i) (g B0 i) = y at *
                go_wp2_with fail
                go_quiet ((go_at_call 19; exact Calls.quiet_of_same (HA.out _)))
                go_wp2_with fail
                go_loopw [16, 17] (fun v16 v17 w4 => ∃ b : Nat, b ≤ 4 ∧ v16 = .int .u64 (y / 2 ^ (8 * b) : Nat) ∧ v17 = .int .i64 b ∧ XB w w4 27 45 .u64 X key nonce B0 L ∧ Row w4 O 27 (vs .u8 (Cc.ow L B0 (4 * i + b)))) (fun _ v17 _ => 4 - (intOf v17).toNat)
                case atStart => exact ⟨0, by omega, by rw [div_zero'], rfl, hx.drewN _, hO⟩
                case round =>
                  clear hx hO cx cw
                  obtain ⟨b, hb, rfl, rfl, hx, hO⟩ := hrel
                  by_cases hlt : b < 4
                  · have hn' := Cc.ow_next L B0 (4 * i + b) (by omega)
                    have hob' := hob.out b hlt
                    rw [hob'] at hn'
                    have hdn := div_next y b
                    have hys : y / 2 ^ (8 * b) < 4294967296 := Nat.lt_of_le_of_lt (Nat.div_le_self _ _) hadd
                    have HD := Sec.mk hdn
                    clear hdn hob'
                    generalize y / 2 ^ (8 * b) = z at *
                    have hc := hO.cell (i := 4 * i + b) (by rw [Cc.ow_len (by omega)]; omega)
                    have hf := hO.free (4 * i + b)
                    have hO' := hO.set (4 * i + b) (z % 256)
                    have hx' := hx.otherCell hOB hOX (4 * i + b) (.int .u8 ((z % 256 : Nat) : Int))
                    rw [hn'] at hO'
                    clear hn'
                    go_wp2_with fail
                    go_roundw
                    case rel => exact ⟨b + 1, by omega, by rw [← HD.out]; go_num, by go_num, hx', hO'⟩
                    case measure => simp [intOf]; omega
                  · have hd2 : decide ((b : Int) < 4) = false := decide_eq_false (by omega)
                    rw [show 4 * i + b = 4 * (i + 1) from by omega] at hO
                    go_wp2_with fail
                    go_roundw
                    case rel => exact ⟨i + 1, by omega, by go_num, hx, hO⟩
                    case measure => simp [intOf]; omega
              · rw [show 4 * i = 64 from by omega] at hO
                go_wp2_with fail
                go_meet
                exact ⟨hx, hO⟩
        case rest =>
          clear hx1 hO
          obtain ⟨hx, hO⟩ := hcut
          rw [hbl.out] at hO
          obtain ⟨Z, hZ, hr⟩ := hx.blk.rr
          have hbw := hx.blk.below
          have hlen := Cc.block_len key nonce n
          have hi64 : (Try.prog.info? 27).map (·.size) = some (vs .u8 (Cc.block key nonce n)).size := by rw [vs_size, hlen]; kernel_rfl
          go_wp2_with (first
            | (refine wpList_load_row rfl 27 (.tmp 14) rfl O rfl 27 (vs .u8 (Cc.block key nonce n)) (0, 0) _ hO Try.underlying27 rfl hi64 ?_)
            | (refine wpList_store_row rfl 27 (.tmp 6) (.tmp 109) rfl (w.heap.size + 1 + 1) (vs .u8 (Cc.block key nonce n)) rfl rfl 27 _ hr hi64 (by rw [hZ, vs_size, hlen]) (vs_all _ _) ?_))
          refine bodyPost_ret (results_cell_row rfl _ _ (w.heap.size + 1 + 1) _ _ _ _ rfl hr.row Try.underlying27 rfl hi64) rfl ⟨rfl, below_row hbw (by omega) _⟩
end Go.Proofs.Ytgdjapcpgkflbaa
