/- The program's block. -/
import Derived.Test.YtgdjapcpgkflbaaBegin
import Derived.Test.YtgdjapcpgkflbaaStep
namespace Go.Proofs.Ytgdjapcpgkflbaa
open Go.RowKit
open Cc (g)

theorem Row.after (w : World) (o : Obj) (b : Nat) (C A : Array Value) (t : Nat) : Row (((w.alloc o).setRow b C).alloc (.cells A t)) (w.heap.size + 1) t A := by
  have := Row.new ((w.alloc o).setRow b C) A t
  rwa [size_setRow, size_alloc] at this
theorem col (B : Nat) (L : List Nat) (hL : Cc.Ws L) (j : Nat) (hj : j < 4) (w : World) (hr : Row w B 38 (vs .u32 L)) :
    Calls Try.prog 15 #[.int .i64 j, .int .i64 (4 + (j : Int)), .int .i64 (8 + (j : Int)), .int .i64 (12 + (j : Int)), .pointer (some ⟨B, 0, none⟩)] w
      fun e w' => e = .returned (.tuple #[]) ∧ Row w' B 38 (vs .u32 (Cc.step L j (4 + j) (8 + j) (12 + j))) ∧ w.grownBy w' (some B) := by
  have := step_any B L hL j (4 + j) (8 + j) (12 + j) w hj (by omega) (by omega) (by omega) (by omega) (by omega) (by omega) hr
  push_cast at this
  exact this
theorem diag (B : Nat) (L : List Nat) (hL : Cc.Ws L) (j : Nat) (hj : j < 4) (w : World) (hr : Row w B 38 (vs .u32 L)) :
    Calls Try.prog 15 #[.int .i64 j, .int .i64 (4 + ((j : Int) + 1) % 4), .int .i64 (8 + ((j : Int) + 2) % 4), .int .i64 (12 + ((j : Int) + 3) % 4), .pointer (some ⟨B, 0, none⟩)] w
      fun e w' => e = .returned (.tuple #[]) ∧ Row w' B 38 (vs .u32 (Cc.step L j (4 + (j + 1) % 4) (8 + (j + 2) % 4) (12 + (j + 3) % 4))) ∧ w.grownBy w' (some B) := by
  have := step_any B L hL j (4 + (j + 1) % 4) (8 + (j + 2) % 4) (12 + (j + 3) % 4) w hj (by omega) (by omega) (by omega) (by omega) (by omega) (by omega) hr
  push_cast at this
  exact this

/-- The result's row, the first words, and the words that are turned. -/
structure PB (w wr : World) (F X : Nat) (W L : List Nat) : Prop where
  rr : ∃ Z : Array Value, Z.size = 64 ∧ Row wr (w.heap.size + 1 + 1) 27 Z
  fr : Row wr F 38 (vs .u32 W)
  xr : Row wr X 38 (vs .u32 L)
  farF : w.heap.size + 1 + 1 < F
  farX : F < X
  below : Below w.heap.size w wr
theorem PB.turned {w wr w2 : World} {F X : Nat} {W L L' : List Nat} (h : PB w wr F X W L) (hg : wr.grownBy w2 (some X)) (hr : Row w2 X 38 (vs .u32 L')) : PB w w2 F X W L' := by
  obtain ⟨⟨Z, hZ, hz⟩, hf, hx, h1, h2, hb⟩ := h
  have hl := hx.lt
  exact ⟨⟨Z, hZ, hz.grown hg (by intro e; injection e; omega)⟩, hf.grown hg (by intro e; injection e; omega), hr, h1, h2, hb.grown hg (by omega) (by intro k e; injection e; omega)⟩
theorem PB.otherCell {w wr : World} {F X : Nat} {W L : List Nat} (h : PB w wr F X W L) {b : Nat} (hb : X < b) (i : Nat) (v : Value) : PB w (wr.setCell ⟨b, i, none⟩ v) F X W L := by
  obtain ⟨⟨Z, hZ, hz⟩, hf, hx, h1, h2, hbl⟩ := h
  exact ⟨⟨Z, hZ, hz.aside (by show _ ≠ b; omega) v⟩, hf.aside (by show _ ≠ b; omega) v, hx.aside (by show _ ≠ b; omega) v, h1, h2, hbl.setCell (by show _ ≤ b; omega) v⟩
theorem PB.drewN {w wr : World} {F X : Nat} {W L : List Nat} (h : PB w wr F X W L) (m : Nat) : PB w (wr.drewN m) F X W L := ⟨h.rr, h.fr, h.xr, h.farF, h.farX, below_drewN' h.below m⟩
theorem PB.alloc {w wr : World} {F X : Nat} {W L : List Nat} (h : PB w wr F X W L) (o : Obj) : PB w (wr.alloc o) F X W L := by
  obtain ⟨⟨Z, hZ, hz⟩, hf, hx, h1, h2, hbl⟩ := h
  exact ⟨⟨Z, hZ, hz.alloc o⟩, hf.alloc o, hx.alloc o, h1, h2, hbl.alloc hbl.size o⟩

set_option maxRecDepth 100000 in
set_option maxHeartbeats 8000000 in
theorem block_any (key nonce : List Nat) (n : Nat) (hk : key.length = 32) (hn : nonce.length = 12) (hkl : ∀ x ∈ key, x < 256) (hnl : ∀ x ∈ nonce, x < 256) (hnn : n < 4294967296) (w : World) :
    Calls Try.prog 10 #[.agg (vs .u8 key), .agg (vs .u8 nonce), .int .u32 n] w fun e w' => e = .returned (.agg (vs .u8 (Cc.block key nonce n))) ∧ Below w.heap.size w w' := by
  have hw := Cc.begin_ws hkl hnl hnn
  go_enter Try.func10, Try.ntmps10
  go_upto_region 1 with (fail)
  refine wp_abs (fun W0 HW0 => ?_)
  have hk0 : Row W0 w.heap.size 23 (vs .u8 key) := by rw [HW0.out]; exact ((Row.new w _ 23).alloc _).alloc _
  have hn0 : Row W0 (w.heap.size + 1) 24 (vs .u8 nonce) := by rw [HW0.out]; exact (Row.new1 w _ _ 24).alloc _
  have hr0 : ∃ Z : Array Value, Z.size = 64 ∧ Row W0 (w.heap.size + 1 + 1) 27 Z := by
    rw [HW0.out]
    have := Row.new ((w.alloc (.cells (vs .u8 key) 23)).alloc (.cells (vs .u8 nonce) 24)) (Array.replicate 64 (.int .u8 0)) 27
    rw [size_alloc, size_alloc] at this
    exact ⟨_, by simp, this⟩
  have hb0 : Below w.heap.size w W0 := by
    rw [HW0.out]
    have b1 := (Below.refl w.heap.size w).alloc (Nat.le_refl _) (.cells (vs .u8 key) 23)
    have b2 := b1.alloc b1.size (.cells (vs .u8 nonce) 24)
    exact b2.alloc b2.size _
  clear HW0
  have i23 : (Try.prog.info? 23).map (·.size) = some (vs .u8 key).size := by rw [vs_size, hk]; kernel_rfl
  have i24 : (Try.prog.info? 24).map (·.size) = some (vs .u8 nonce).size := by rw [vs_size, hn]; kernel_rfl
  go_wp2_with (first
    | (refine wpList_load_row rfl 23 (.tmp 3) rfl w.heap.size rfl 23 (vs .u8 key) (0, 0) _ hk0 Try.underlying23 rfl i23 ?_)
    | (refine wpList_load_row rfl 24 (.tmp 4) rfl (w.heap.size + 1) rfl 24 (vs .u8 nonce) (0, 0) _ hn0 Try.underlying24 rfl i24 ?_))
  refine (begin_any key nonce n hk hn hkl hnl hnn _).mono ?_
  rintro e W1 ⟨rfl, hB1⟩
  obtain ⟨Z, hZ, hz0⟩ := hr0
  have hz1 := hz0.below hB1 hz0.lt
  have hb1 := hb0.trans (hB1.mono hb0.size)
  have hF : w.heap.size + 1 + 1 < W1.heap.size := hz1.lt
  clear hk0 hn0 hz0 hb0 hB1 i23 i24
  go_upto_block 0 with (first
    | (refine wpList_store_row rfl 38 (.tmp 7) (.tmp 19) rfl W1.heap.size (vs .u32 (Cc.begin_ key nonce n)) rfl rfl 38 _ (Row.new W1 _ 38) (size38 hw) (by rw [size16 hw]; rfl) (vs_all _ _) ?_)
    | (refine wpList_load_row rfl 38 (.tmp 7) rfl W1.heap.size rfl 38 (vs .u32 (Cc.begin_ key nonce n)) (0, 0) _ (Row.new W1 _ 38).row Try.underlying38 rfl (size38 hw) ?_)
    | (refine wpList_store_row rfl 38 (.tmp 8) (.tmp 20) rfl (W1.heap.size + 1) (vs .u32 (Cc.begin_ key nonce n)) rfl rfl 38 _ (Row.after _ _ _ _ _ 38) (size38 hw) (by rw [size16 hw]; rfl) (vs_all _ _) ?_))
  refine wp_abs (fun W2 HW2 => ?_)
  have hp : PB w W2 W1.heap.size (W1.heap.size + 1) (Cc.begin_ key nonce n) (Cc.rounds (Cc.begin_ key nonce n) 0) := by
    rw [HW2.out, Cc.rounds_zero]
    refine ⟨⟨Z, hZ, ((((hz1.alloc _).rowOther (Nat.ne_of_lt hz1.lt) _).alloc _).rowOther (by have := hz1.lt; omega) _)⟩, (((Row.new W1 _ 38).row).alloc _).rowOther (by omega) _, (Row.after W1 _ _ _ _ 38).row, hF, by omega, ?_⟩
    have b1 := hb1.alloc hb1.size (.cells #[.int .u32 0, .int .u32 0, .int .u32 0, .int .u32 0, .int .u32 0, .int .u32 0, .int .u32 0, .int .u32 0, .int .u32 0, .int .u32 0, .int .u32 0, .int .u32 0, .int .u32 0, .int .u32 0, .int .u32 0, .int .u32 0] 38)
    exact below_row ((below_row b1 (by omega) _).alloc (by rw [size_setRow, size_alloc]; have := hb1.size; omega) _) (by have := hb1.size; omega) _
  clear HW2 hz1 hb1 hF hkl hnl
  have hbl := Sec.mk (Cc.ow_done key nonce n)
  obtain ⟨B0, hB0⟩ : ∃ B0, B0 = Cc.begin_ key nonce n := ⟨_, rfl⟩
  have hbl' := hbl.out
  rw [← hB0] at hp hw hbl'
  clear hbl
  have hbl := Sec.mk hbl'
  clear hbl'
  rw [← hB0]
  clear hB0
  generalize W1.heap.size = F at hp ⊢
  go_cut [22] (fun _ w3 => PB w w3 F (F + 1) B0 (Cc.rounds B0 10))
  case first =>
    clear hk hn hnn hbl
    as_aux_lemma =>
      go_wp2_with fail
      go_loopw [22] (fun v11 w3 => ∃ r : Nat, r ≤ 10 ∧ v11 = .int .i64 r ∧ PB w w3 F (F + 1) B0 (Cc.rounds B0 r)) (fun v11 _ => 10 - (intOf v11).toNat)
      case atStart => exact ⟨0, by omega, rfl, hp⟩
      case round =>
        clear hp
        obtain ⟨r, hr, rfl, hx⟩ := hrel
        have hL := hw.rounds r
        by_cases hlt : r < 10
        · have hd : decide ((r : Int) < 10) = true := decide_eq_true (by omega)
          have hn' := Cc.rounds_succ B0 r
          obtain ⟨L, hLe⟩ : ∃ L, L = Cc.rounds B0 r := ⟨_, rfl⟩
          rw [← hLe] at hx hL hn'
          clear hLe
          have HN := Sec.mk hn'
          clear hn'
          go_upto_block 2 with (fail)
          go_cut [24] (fun _ w4 => PB w w4 F (F + 1) B0 (Cc.cols L 4))
          case first =>
            clear hw HN
            as_aux_lemma =>
              go_wp2_with fail
              go_loopw [24] (fun v12 w4 => ∃ j : Nat, j ≤ 4 ∧ v12 = .int .i64 j ∧ PB w w4 F (F + 1) B0 (Cc.cols L j)) (fun v12 _ => 4 - (intOf v12).toNat)
              case atStart => exact ⟨0, by omega, rfl, by rw [Cc.cols_zero]; exact hx⟩
              case round =>
                clear hx
                obtain ⟨j, hj, rfl, hx⟩ := hrel
                by_cases hlt : j < 4
                · have H := col (F + 1) (Cc.cols L j) (hL.cols j) j hlt wr hx.xr
                  rw [← Cc.cols_succ] at H
                  replace H := Sec.mk H
                  go_wp2_with fail
                  refine H.out.mono ?_
                  rintro e w5 ⟨rfl, hr5, hg5⟩
                  have hx5 := hx.turned hg5 hr5
                  go_wp2_with fail
                  go_roundw
                  case rel => exact ⟨j + 1, by omega, by go_num, hx5⟩
                  case measure => simp [intOf]; omega
                · rw [show j = 4 from by omega] at hx
                  go_wp2_with fail
                  go_meet
                  exact hx
          case rest =>
            clear hx
            have hL4 := hL.cols 4
            obtain ⟨L4, hLe⟩ : ∃ L4, L4 = Cc.cols L 4 := ⟨_, rfl⟩
            have HN' := HN.out
            rw [← hLe] at hcut hL4 HN'
            clear hLe HN hL
            have HN := Sec.mk HN'
            clear HN'
            go_wp2_with fail
            go_loopw [37] (fun v13 w4 => ∃ j : Nat, j ≤ 4 ∧ v13 = .int .i64 j ∧ PB w w4 F (F + 1) B0 (Cc.diags L4 j)) (fun v13 _ => 4 - (intOf v13).toNat)
            case atStart => exact ⟨0, by omega, rfl, by rw [Cc.diags_zero]; exact hcut⟩
            case round =>
              clear hcut
              obtain ⟨j, hj, rfl, hx⟩ := hrel
              by_cases hlt : j < 4
              · clear hw HN
                as_aux_lemma =>
                  have H := diag (F + 1) (Cc.diags L4 j) (hL4.diags j) j hlt wr hx.xr
                  rw [← Cc.diags_succ] at H
                  replace H := Sec.mk H
                  go_wp2_with fail
                  refine H.out.mono ?_
                  rintro e w5 ⟨rfl, hr5, hg5⟩
                  have hx5 := hx.turned hg5 hr5
                  go_wp2_with fail
                  go_roundw
                  case rel => exact ⟨j + 1, by omega, by go_num, hx5⟩
                  case measure => simp [intOf]; omega
              · have hd2 : decide ((j : Int) < 4) = false := decide_eq_false (by omega)
                rw [show j = 4 from by omega, ← HN.out] at hx
                go_wp2_with fail
                go_roundw
                case rel => exact ⟨r + 1, by omega, by go_num, hx⟩
                case measure => simp [intOf]; omega
        · rw [show r = 10 from by omega] at hx
          go_wp2_with fail
          go_meet
          exact hx
  case rest =>
    clear hp
    have hL := hw.rounds 10
    obtain ⟨L, hLe⟩ : ∃ L, L = Cc.rounds B0 10 := ⟨_, rfl⟩
    have hbl' := hbl.out
    rw [← hLe] at hcut hL hbl'
    clear hLe hbl
    have hbl := Sec.mk hbl'
    clear hbl'
    go_upto_block 6 with (fail)
    refine wp_abs (fun W3 HW3 => ?_)
    have hx1 : PB w W3 F (F + 1) B0 L := by rw [HW3.out]; exact hcut.alloc _
    have hO : Row W3 wc.heap.size 27 (vs .u8 (Cc.ow L B0 0)) := by
      rw [HW3.out, show Cc.ow L B0 0 = List.replicate 64 0 from by simp [Cc.ow]]
      exact Row.new wc _ 27
    have hOX : F + 1 < wc.heap.size := hcut.xr.lt
    clear HW3 hcut
    generalize wc.heap.size = O at hO hOX ⊢
    go_cut [57] (fun _ w3 => PB w w3 F (F + 1) B0 L ∧ Row w3 O 27 (vs .u8 (Cc.ow L B0 64)))
    case first =>
      clear hk hn hnn hbl
      as_aux_lemma =>
        go_wp2_with fail
        go_loopw [57] (fun v15 w3 => ∃ i : Nat, i ≤ 16 ∧ v15 = .int .i64 i ∧ PB w w3 F (F + 1) B0 L ∧ Row w3 O 27 (vs .u8 (Cc.ow L B0 (4 * i)))) (fun v15 _ => 16 - (intOf v15).toNat)
        case atStart => exact ⟨0, by omega, rfl, hx1, hO⟩
        case round =>
          clear hx1 hO
          obtain ⟨i, hi, rfl, hx, hO⟩ := hrel
          by_cases hlt : i < 16
          · have hd : decide ((i : Int) < 16) = true := decide_eq_true (by omega)
            have hi16 : (i : Int) < 16 := by omega
            have cx := hx.xr.cell (i := i) (by rw [hL.len]; omega)
            have cw := hx.fr.cell (i := i) (by rw [hw.len]; omega)
            have lx := hL.lt i
            have lw := hw.lt i
            have hob := Sec.mk (fun j (hj : j < 4) => Cc.outb_at L B0 i j hj)
            have hadd := Cc.add_lt (g L i) (g B0 i)
            have ea := wrap_add (g L i) (g B0 i)
            generalize Cc.add (g L i) (g B0 i) = y at *
            go_wp2_with fail
            go_quiet (fail)
            clear ea
            go_wp2_with fail
            go_loopw [67] (fun v17 w4 => ∃ b : Nat, b ≤ 4 ∧ v17 = .int .i64 b ∧ PB w w4 F (F + 1) B0 L ∧ Row w4 O 27 (vs .u8 (Cc.ow L B0 (4 * i + b)))) (fun v17 _ => 4 - (intOf v17).toNat)
            case atStart => exact ⟨0, by omega, rfl, hx.drewN _, hO⟩
            case round =>
              clear hx hO cx cw
              obtain ⟨b, hb, rfl, hx, hO⟩ := hrel
              by_cases hlt : b < 4
              · have hn' := Cc.ow_next L B0 (4 * i + b) (by omega)
                have hob' := hob.out b hlt
                rw [hob'] at hn'
                have hc := hO.cell (i := 4 * i + b) (by rw [Cc.ow_len (by omega)]; omega)
                have hf := hO.free (4 * i + b)
                have hO' := hO.set (4 * i + b) (y / 2 ^ (8 * b) % 256)
                have hx' := hx.otherCell hOX (4 * i + b) (.int .u8 ((y / 2 ^ (8 * b) % 256 : Nat) : Int))
                rw [hn'] at hO'
                clear hn' hob'
                have ec : ((y / 2 ^ (8 * b) % 256 : Nat) : Int) = (y : Int) / 2 ^ (8 * b) % 256 := by push_cast; rfl
                rw [ec] at hO' hx'
                clear ec
                have es : (8 * (b : Int)).toNat = 8 * b := by omega
                go_wp2_with fail
                go_roundw
                case rel => exact ⟨b + 1, by omega, by go_num, hx', hO'⟩
                case measure => simp [intOf]; omega
              · have hd2 : decide ((b : Int) < 4) = false := decide_eq_false (by omega)
                rw [show 4 * i + b = 4 * (i + 1) from by omega] at hO
                go_wp2_with fail
                go_roundw
                case rel => exact ⟨i + 1, by omega, by go_num, hx, hO⟩
                case measure => simp [intOf]; omega
          · rw [show 4 * i = 64 from by omega] at hO
            go_wp2_with fail
            go_meet
            exact ⟨hx, hO⟩
    case rest =>
      clear hx1 hO
      obtain ⟨hx, hO⟩ := hcut
      rw [hbl.out] at hO
      obtain ⟨Z, hZ, hr⟩ := hx.rr
      have hbw := hx.below
      have hlen := Cc.block_len key nonce n
      have hi64 : (Try.prog.info? 27).map (·.size) = some (vs .u8 (Cc.block key nonce n)).size := by rw [vs_size, hlen]; kernel_rfl
      go_wp2_with (first
        | (refine wpList_load_row rfl 27 (.tmp 12) rfl O rfl 27 (vs .u8 (Cc.block key nonce n)) (0, 0) _ hO Try.underlying27 rfl hi64 ?_)
        | (refine wpList_store_row rfl 27 (.tmp 6) (.tmp 82) rfl (w.heap.size + 1 + 1) (vs .u8 (Cc.block key nonce n)) rfl rfl 27 _ hr hi64 (by rw [hZ, vs_size, hlen]) (vs_all _ _) ?_))
      refine bodyPost_ret (results_cell_row rfl _ _ (w.heap.size + 1 + 1) _ _ _ _ rfl hr.row Try.underlying27 rfl hi64) rfl ⟨rfl, below_row hbw (by omega) _⟩
end Go.Proofs.Ytgdjapcpgkflbaa
