/- CipherStream: its walk. -/
import Derived.Test.YtgdjapcpgkflbaaWParts
import Derived.Deep.OwnRows
import Derived.Deep.RegionHeld3
namespace Go.Proofs.Ytgdjapcpgkflbaa
open Go.RowKit
open Cc (g)

theorem stream_eq (key nonce : List Nat) (n m i : Nat) (hi : 64 * i + 64 ≤ m) :
    (txt (Cc.xorS (Cc.sb key nonce n) (bytes (txt (List.replicate m 0))))).extract (64 * i) (64 * i + 64) = txt (Cc.block key nonce ((n + i) % 4294967296)) := by
  rw [bytes_txt (fun x hx => by rw [(List.mem_replicate.1 hx).2]; decide)]
  rw [← txt_bytes (ByteArray.extract _ _ _), bytes_extract, bytes_txt (Cc.xorS_lt (Cc.sb_lt key nonce n) (fun x hx => by rw [(List.mem_replicate.1 hx).2]; decide))]
  congr 1
  apply List.ext_getElem
  · simp [Cc.xorS, Cc.block_len]; omega
  · intro j h1 h2
    have h2' : j < 64 := by simpa [Cc.block_len] using h2
    simp only [List.getElem_take, List.getElem_drop, Cc.xorS, List.getElem_map, List.getElem_range]
    have e : g (List.replicate m 0) (64 * i + j) = 0 := by
      simp only [g, List.getD_eq_getElem?_getD]
      rw [List.getElem?_replicate]
      split <;> rfl
    rw [e, Nat.zero_xor]
    unfold Cc.sb
    rw [show (64 * i + j) / 64 = i from by omega, show (64 * i + j) % 64 = j from by omega]
    simp [g, List.getElem?_eq_getElem h2]
theorem stream_size (f : Nat → Nat) (m : Nat) : (txt (Cc.xorS f (bytes (txt (List.replicate m 0))))).size = m := by
  rw [txt_size, Cc.xorS_len, bytes_len, txt_size, List.length_replicate]
theorem info5s : (Try.prog.info? 5).map (fun i => (i.zero, i.size, i.bytes)) = some (some (.int .u8 0), 1, 1) := by kernel_rfl
theorem zeros (n : Nat) : madeCells #[Value.int .u8 0] n = vs .u8 (List.replicate n 0) := by
  unfold madeCells vs
  rw [← Array.toList_inj]
  apply List.ext_getElem
  · simp
  · intro j h1 h2
    simp [Nat.mod_one]
theorem yi_load_part {P : Program} {ops : Array Oper} {S : World → Prop} {a : Act} {o : Oper} (hw : Region.wanted o (yielded ops a.tmps) = true) (ty : TypeId) (x : Operand) (ho : o.op = .load ty x)
    (b off : Nat) (hx : a.eval x = .pointer (some ⟨b, off, none⟩)) (k : IntKind) (L : List Nat) (hl : ∀ w, S w → (loadVar ty ⟨b, off, none⟩).run P w = .ok (.agg (vs k L)) w) : YieldsIf P ops S o (.agg (vs k L)) a :=
  .inl ⟨hw, fun w hC => by
    unfold execOp
    simp only [ho, hx, Instr.loadAt, Instr.sureAddr, Sem.run_bind, Sem.run_pure, Result.andThen_ok, hl w hC]⟩
theorem below_alloc_row {B : Nat} {a w : World} (h : Below B a w) (hB : B ≤ w.heap.size) (o : Obj) : Below B a (w.alloc o) := h.alloc hB o

set_option maxHeartbeats 4000000 in
theorem stream_walk (key nonce : List Nat) (n b : Nat) (hk : key.length = 32) (hn : nonce.length = 12) (hkl : ∀ x ∈ key, x < 256) (hnl : ∀ x ∈ nonce, x < 256) (hnn : n < 4294967296)
    (hb : b ≤ 255) (w : World) :
    Calls Try.prog 8 #[.agg (caseA key nonce n), .int .u8 b] w fun e w' => e = .returned (.bool true) ∧ Below w.heap.size w w' := by
  have hc0 : CRow (w.alloc (.cells (caseA key nonce n) 31)) w.heap.size key nonce n := ⟨Row.new w _ 31, hk, hn, hkl, hnl, hnn⟩
  have hb0 := (Below.refl w.heap.size w).alloc (Nat.le_refl _) (.cells (caseA key nonce n) 31)
  clear hk hn hkl hnl
  obtain ⟨N, hN⟩ : ∃ N, N = b % 20 := ⟨_, rfl⟩
  have hN20 : N < 20 := by omega
  have et : (b : Int).tmod 20 = (N : Int) := by rw [Int.tmod_eq_emod_of_nonneg (by omega)]; omega
  replace hN := Sec.mk hN
  have ew : IntKind.i64.wrap (64 * (N : Int)) = 64 * (N : Int) := IntWalk.i64_in _ (by omega)
  obtain ⟨x, hx⟩ : ∃ x, x = txt (Cc.xorS (Cc.sb key nonce n) (bytes (txt (List.replicate (64 * N) 0)))) := ⟨_, rfl⟩
  have hxs : x.size = 64 * N := by rw [hx]; exact stream_size _ _
  have hxe : Sec (∀ i, i < N → x.extract (64 * i) (64 * i + 64) = txt (Cc.block key nonce ((n + i) % 4294967296))) := ⟨fun i hi => by rw [hx]; exact stream_eq key nonce n _ i (by omega)⟩
  go_enter Try.func8, Try.ntmps8
  go_upto_region 2 with (fail)
  refine wp_abs (fun W HW => ?_)
  rw [← HW.out] at hc0 hb0
  clear HW
  have hcd : CRow W.drew w.heap.size key nonce n := ⟨hc0.row.drew, hc0.hk, hc0.hn, hc0.hkl, hc0.hnl, hc0.hnn⟩
  have hbd : Below w.heap.size w W.drew := hb0.drew
  obtain ⟨D, hD⟩ : ∃ D, D = W.drew := ⟨_, rfl⟩
  refine wp_region_held_drew (S := Below D.heap.size D) (by kernel_rfl) (by rw [← hD]; exact Below.refl _ _) (fun hS => ?_)
  rw [← hD] at hS hcd hbd ⊢
  clear hD hc0 hb0 W
  have Rc := Sec.mk (fun w' (h : Below D.heap.size D w') => hcd.kept h hcd.row.lt)
  refine wpAnyH_take (i := 0) (v := .pointer (some ⟨w.heap.size, 0, none⟩)) rfl (by kernel_rfl) (by kernel_rfl) (by kernel_rfl) (fun _ _ _ h => h) (Or.inl ⟨rfl, fun w' h => by go_simp; try rfl⟩) hS ?_
  go_simp
  refine wpAnyH_take (i := 1) (v := .agg (vs .u8 key)) rfl (by kernel_rfl) (by kernel_rfl) (by kernel_rfl) (fun _ _ _ h => h) (yi_load_part rfl 23 (.tmp 12) rfl w.heap.size 0 rfl .u8 key (fun w' h => (Rc.out w' h).key_)) hS ?_
  go_simp
  refine wpAnyH_take (i := 2) (v := .pointer (some ⟨w.heap.size, 32, none⟩)) rfl (by kernel_rfl) (by kernel_rfl) (by kernel_rfl) (fun _ _ _ h => h) (Or.inl ⟨rfl, fun w' h => by go_simp; try rfl⟩) hS ?_
  go_simp
  refine wpAnyH_take (i := 3) (v := .agg (vs .u8 nonce)) rfl (by kernel_rfl) (by kernel_rfl) (by kernel_rfl) (fun _ _ _ h => h) (yi_load_part rfl 24 (.tmp 14) rfl w.heap.size 32 rfl .u8 nonce (fun w' h => (Rc.out w' h).nonce_)) hS ?_
  go_simp
  refine wpAnyH_take (i := 4) (v := .pointer (some ⟨w.heap.size, 44, none⟩)) rfl (by kernel_rfl) (by kernel_rfl) (by kernel_rfl) (fun _ _ _ h => h) (Or.inl ⟨rfl, fun w' h => by go_simp; try rfl⟩) hS ?_
  go_simp
  refine wpAnyH_take (i := 5) (v := .int .u32 n) rfl (by kernel_rfl) (by kernel_rfl) (by kernel_rfl) (fun _ _ _ h => h) (Or.inl ⟨rfl, fun w' h => by have c := (Rc.out w' h).n_; go_simp; try rfl⟩) hS ?_
  go_simp
  refine wpAnyH_take (i := 6) (v := .int .i64 N) rfl (by kernel_rfl) (by kernel_rfl) (by kernel_rfl) (fun _ _ _ h => h) (Or.inl ⟨rfl, fun w' h => by go_simp; try rfl⟩) hS ?_
  go_simp
  refine wpAnyH_take (i := 7) (v := .int .i64 ((64 * N : Nat) : Int)) rfl (by kernel_rfl) (by kernel_rfl) (by kernel_rfl) (fun _ _ _ h => h) (Or.inl ⟨rfl, fun w' h => by go_simp; try rfl⟩) hS ?_
  go_simp
  have H12 := fun w' => xor_c hcd (txt (List.replicate (64 * N) 0)) (by rw [txt_size]; simp; omega) n hnn w'
  rw [← hx] at H12
  clear hx
  replace H12 := Sec.mk H12
  have hmk : ∀ w' : World, (Instr.makeSlice 36 (.int .i64 (64 * (N : Int))) (.int .i64 (64 * (N : Int)))).run Try.prog w' = .ok (.slice (some ⟨w'.heap.size, 0, none⟩) (64 * N) (64 * N)) (w'.alloc (.cells (vs .u8 (List.replicate (64 * N) 0)) 5)) := fun w' => by
    have h := run_make_row' (P := Try.prog) 36 5 (.int .u8 0) 1 Try.underlying36 info5s rfl .i64 .i64 (64 * N) (by omega) (by omega) w'
    rw [zeros] at h
    exact h
  refine wpAnyH_ready (rs := [8]) (by kernel_rfl) (by simp) (AllReadyH.cons (o := _) rfl (fun K hK => ?_) AllReadyH.nil)
  go_simp
  refine hK.out _ _ ((Below.refl _ _).alloc (Nat.le_refl _) _) (fun hS1 => ?_)
  clear hK K hmk
  have hcv := run_text_of_row Try.underlying36 Try.underlying5 Try.underlying9 (Row.new D (vs .u8 (List.replicate (64 * N) 0)) 5) (o := 0) (n := 64 * N) (by simp) (64 * N)
  rw [List.drop_zero, List.take_of_length_le (by simp)] at hcv
  obtain ⟨W1, hW1⟩ : ∃ W1, W1 = D.alloc (.cells (vs .u8 (List.replicate (64 * N) 0)) 5) := ⟨_, rfl⟩
  rw [← hW1] at hcv hS1 ⊢
  clear hW1
  refine wpAnyH_ready (rs := [9]) (by kernel_rfl) (by simp) (AllReadyH.cons (o := _) rfl (fun K hK => ?_) AllReadyH.nil)
  go_simp
  refine hK.out _ _ hS1 (fun hS1 => ?_)
  clear hK K hcv
  refine wpAnyH_ready (rs := [10]) (by kernel_rfl) (by simp) (AllReadyH.cons (o := _) rfl (fun K hK => ?_) AllReadyH.nil)
  go_simp
  refine (H12.out _).mono ?_
  rintro e w2 ⟨rfl, hb2⟩
  refine hK.out _ _ (hS1.trans (hb2.mono hS1.size)) (fun hS2 => ?_)
  clear hK K hS1 hb2
  go_simp
  refine wpAnyH_ready (rs := [11]) (by kernel_rfl) (by simp) (AllReadyH.cons (o := _) rfl (fun K hK => ?_) AllReadyH.nil)
  go_simp
  refine hK.out _ _ hS2 (fun hS3 => ?_)
  clear hK K hS2 hS1
  go_simp
  refine wpAnyH_done (by kernel_rfl) ?_ _
  have hc2 := Rc.out _ hS3
  have hb2 := hbd.trans (hS3.mono hbd.size)
  clear hS3 hS H12 Rc hcd hbd
  have hne : ((x.size : Int) == 64 * (N : Int)) = true := by rw [beq_iff_eq]; omega
  go_upto_block 0 with (fail)
  go_wp2_with fail
  go_loopw [29] (fun v29 wr => ∃ i : Nat, i ≤ N ∧ v29 = .int .i64 i ∧ CRow wr w.heap.size key nonce n ∧ Below w.heap.size w wr) (fun v29 _ => N - (intOf v29).toNat)
  case atStart => exact ⟨0, by omega, rfl, hc2, hb2⟩
  case round =>
    clear hc2 hb2
    obtain ⟨i, hi, rfl, hc2, hb2⟩ := hrel
    by_cases hlt : i < N
    · have hd : decide ((i : Int) < N) = true := decide_eq_true (by omega)
      have hie := Sec.mk (hxe.out i hlt)
      go_upto_region 8 with (fail)
      have k0 := hc2.key_
      have n0 := hc2.nonce_
      have m0 := hc2.n_
      go_wp2_with (first
        | (refine wpList_load_part rfl 23 (.tmp 32) rfl w.heap.size 0 rfl .u8 key k0 ?_)
        | (refine wpList_load_part rfl 24 (.tmp 34) rfl w.heap.size 32 rfl .u8 nonce n0 ?_))
      have en : ((n : Int) + i) % 4294967296 = ((n + i) % 4294967296 : Nat) := by omega
      rw [en]
      refine (block_any key nonce ((n + i) % 4294967296) hc2.hk hc2.hn hc2.hkl hc2.hnl (Nat.mod_lt _ (by decide)) wr).mono ?_
      rintro e w3 ⟨rfl, hb3⟩
      have hbl := Cc.block_len key nonce ((n + i) % 4294967296)
      have hc3 := hc2.kept hb3 hc2.row.lt
      have hb3' := hb2.trans (hb3.mono hb2.size)
      clear hc2 hb2 hb3 k0 n0 m0
      obtain ⟨C, hC⟩ : ∃ C, C = Cc.block key nonce ((n + i) % 4294967296) := ⟨_, rfl⟩
      rw [← hC] at hbl hie ⊢
      clear hC en
      have hz := Row.new w3 (vs .u8 (List.replicate 64 0)) 27
      go_upto_region 9 with (refine wpList_store_row rfl 27 (.tmp 8) (.tmp 41) rfl w3.heap.size (vs .u8 C) rfl rfl 27 _ hz (by rw [vs_size, hbl]; kernel_rfl) (by simp [vs_size, hbl]) (vs_all _ _) ?_)
      refine wp_abs (fun W HW => ?_)
      have hrow : Row W w3.heap.size 27 (vs .u8 C) := by rw [HW.out]; exact hz.row
      have hbW : Below w3.heap.size w3 W := by rw [HW.out]; exact below_row ((Below.refl _ _).alloc (Nat.le_refl _) _) (Nat.le_refl _) _
      have hlt3 := hrow.lt
      clear HW hz
      have ei : IntKind.i64.wrap (64 * (i : Int)) = 64 * (i : Int) := IntWalk.i64_in _ (by omega)
      have ei2 : IntKind.i64.wrap (64 * (i : Int) + 64) = 64 * (i : Int) + 64 := IntWalk.i64_in _ (by omega)
      have g1 : (0 : Int) ≤ 64 * (i : Int) := by omega
      have g2 : 64 * (i : Int) ≤ 64 * (i : Int) + 64 := by omega
      have g3 : 64 * (i : Int) + 64 ≤ 64 * (N : Int) := by omega
      have g4 : (0 : Int) ≤ 64 * (i : Int) + 64 := by omega
      have t1 : (64 * (i : Int)).toNat = 64 * i := by omega
      have t2 : (64 * (i : Int) + 64).toNat = 64 * i + 64 := by omega
      have Rr := Sec.mk (fun w' (h : Below W.heap.size W w') => run_text_of_row Try.underlying36 Try.underlying5 Try.underlying9 (hrow.below h hlt3) (o := 0) (n := 64) (by omega) 64)
      rw [List.drop_zero, List.take_of_length_le (by omega)] at Rr
      refine wp_region_below W.heap.size (by kernel_rfl) (by kernel_rfl) ?_
      refine wpQuiet_step (fun K hK => ?_)
      refine wq_value (v := .string x) rfl (fun _ _ => by go_simp; try rfl) ?_
      go_simp
      refine hK _ ?_
      clear hK K
      refine wpQuiet_step (fun K hK => ?_)
      refine wq_value (v := .int .i64 i) rfl (fun _ _ => by go_simp; try rfl) ?_
      go_simp
      refine hK _ ?_
      clear hK K
      refine wpQuiet_step (fun K hK => ?_)
      refine wq_value (v := .int .i64 (64 * (i : Int))) rfl (fun _ _ => by go_simp; try rfl) ?_
      go_simp
      refine hK _ ?_
      clear hK K
      refine wpQuiet_step (fun K hK => ?_)
      refine wq_value (v := .int .i64 i) rfl (fun _ _ => by go_simp; try rfl) ?_
      go_simp
      refine hK _ ?_
      clear hK K
      refine wpQuiet_step (fun K hK => ?_)
      refine wq_value (v := .int .i64 (64 * (i : Int))) rfl (fun _ _ => by go_simp; try rfl) ?_
      go_simp
      refine hK _ ?_
      clear hK K
      refine wpQuiet_step (fun K hK => ?_)
      refine wq_value (v := .int .i64 (64 * (i : Int) + 64)) rfl (fun _ _ => by go_simp; try rfl) ?_
      go_simp
      refine hK _ ?_
      clear hK K
      refine wpQuiet_step (fun K hK => ?_)
      refine wq_value (v := .string (x.extract (64 * i) (64 * i + 64))) rfl (fun _ _ => by go_simp; try rfl) ?_
      go_simp
      refine hK _ ?_
      clear hK K
      refine wpQuiet_step (fun K hK => ?_)
      refine wq_value (v := .slice (some ⟨w3.heap.size, 0, none⟩) 64 64) rfl (fun _ _ => by go_simp; try rfl) ?_
      go_simp
      refine hK _ ?_
      clear hK K
      refine wpQuiet_step (fun K hK => ?_)
      refine wq_value (v := .string (txt C)) rfl (fun w' h => by have k := Rr.out w' h; go_simp; try rfl) ?_
      go_simp
      refine hK _ ?_
      clear hK K
      rw [hie.out]
      refine wpQuiet_step (fun K hK => ?_)
      refine wq_value (v := .bool false) rfl (fun _ _ => by go_simp; try rfl) ?_
      go_simp
      refine hK _ ?_
      clear hK K
      refine wpQuiet_nil ?_
      intro w' hw'
      have hcW := hc3.kept hbW hc3.row.lt
      have hc4 := hcW.kept hw' hcW.row.lt
      have hb4 := (hb3'.trans (hbW.mono hb3'.size)).trans (hw'.mono (Nat.le_trans hb3'.size hbW.size))
      clear hrow hbW hc3 hcW hb3' Rr hie hw'
      go_wp2_with fail
      go_roundw
      case rel => exact ⟨i + 1, by omega, by go_num, hc4, hb4⟩
      case measure => simp [intOf]; omega
    · have hd : decide ((i : Int) < N) = false := decide_eq_false (by omega)
      go_wp2_with fail
      refine (fixed_any _).mono ?_
      rintro e w3 ⟨rfl, hb3⟩
      go_wp2_with fail
      go_ret
      exact ⟨rfl, hb2.trans (hb3.mono hb2.size)⟩
end Go.Proofs.Ytgdjapcpgkflbaa
