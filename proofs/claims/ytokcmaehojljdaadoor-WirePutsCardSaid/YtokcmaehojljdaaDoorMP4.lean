/- One text of several: RefOf; RefNum; PGetR; Texts; RefMach; RefChk; RefRaw. -/
import Derived.Test.YtokcmaehojljdaaDoorMP1
import Derived.Test.YtokcmaehojljdaaDoorMP3
import Derived.Test.YtokcmaehojljdaaDoorMP2
import Derived.Laws.RangeAny

/- The reference's Of: the digest of a text: its walk. -/
namespace Go.Proofs.YtokcmaehojljdaaDoor
open Go.RowKit Go.Proofs.YtokcmaehojljdaaDoorW.PrintWords Go.Proofs.YtokcmaehojljdaaDoorW.PrintLast Go.Proofs.YtokcmaehojljdaaDoorW.PrintMore
open Cc (g)

theorem wrap_int (x : Int) (h : -9223372036854775808 ≤ x ∧ x ≤ 9223372036854775807) : wrap64 x = x := by unfold wrap64; omega
theorem half_fin : ∀ n : Fin 256, PGet.hibernacleref02_half.f 2 (n.val : Int) = some (Lib.indexByte hexT.data.toList (UInt8.ofNat n.val)) := by decide +kernel
theorem half_any (x : Nat) (hx : x < 256) (w : World) : Calls Tryd.prog 69 #[.int .u8 (x : Int)] w fun e w' => e = .returned (.int .i64 (hexI x)) ∧ ∃ m, w' = w.drewN m := by
  have h := half_fin ⟨x, hx⟩
  refine (PGet.hibernacleref02_half.calls 2 x _ w h).mono ?_
  rintro e w' ⟨rfl, hd⟩
  exact ⟨rfl, hd.out⟩
set_option maxHeartbeats 4000000 in
set_option maxRecDepth 100000 in
theorem rof_any (s : ByteArray) (w : World) : Calls Tryd.prog 52 #[.string s] w fun e w' => e = .returned (.tuple #[.agg (Lib.byteCells (ofD s)).toArray, .bool (ofOk s)]) ∧ Below w.heap.size w w' := by
  have hb0 := ((Below.refl w.heap.size w).alloc (Nat.le_refl _) (.cells (Array.replicate 32 (.int .u8 0)) 26)).alloc (by simp) (.cells (Array.replicate 32 (.int .u8 0)) 26)
  have hR : Row ((w.alloc (.cells (Array.replicate 32 (.int .u8 0)) 26)).alloc (.cells (Array.replicate 32 (.int .u8 0)) 26)) w.heap.size 26 (Lib.byteCells (List.replicate 32 0)).toArray := (Row.new w _ 26).alloc _
  have hD : Row ((w.alloc (.cells (Array.replicate 32 (.int .u8 0)) 26)).alloc (.cells (Array.replicate 32 (.int .u8 0)) 26)) (w.heap.size + 1) 26 (Lib.byteCells (dgs (bytes s) 0)).toArray := Row.new1 w _ _ 26
  have hno : ∀ (W : World) (tm : Array Value), Row W w.heap.size 26 (Lib.byteCells (List.replicate 32 0)).toArray → Below w.heap.size w W → ofOk s = false → tm.getD 2 undef = .pointer (some ⟨w.heap.size, 0, none⟩) → tm.getD 3 undef = .bool false →
      (results Tryd.f52 tm).run Tryd.prog W = .ok (.tuple #[.agg (Lib.byteCells (ofD s)).toArray, .bool (ofOk s)]) W := by
    intro W tm hr _ hk h2 h3
    have e9 : ofD s = List.replicate 32 0 := by rw [ofD, hk]; rfl
    rw [e9, hk]
    rw [results_cell_tmp rfl, h2, h3]
    have hl := run_load_list (P := Tryd.prog) W w.heap.size 0 26 26 (Lib.byteCells (List.replicate 32 0)) (Lib.byteCells (List.replicate 32 0)) _ hr (fun j v hv => by rw [Nat.zero_add]; exact hv) Tryd.underlying26 rfl (by kernel_rfl)
    simp [asAddr, hl]
  go_enter Tryd.func52, Tryd.ntmps52
  go_upto_region 2 with (fail)
  refine wp_abs (fun W HW => ?_)
  have HW' : W = (w.alloc (.cells (Array.replicate 32 (.int .u8 0)) 26)).alloc (.cells (Array.replicate 32 (.int .u8 0)) 26) := HW.out
  rw [← HW'] at hb0 hR hD
  clear HW HW'
  by_cases h64 : s.size = 64
  · have c1 : (s.size : Int) = 64 := by omega
    have hL : (bytes s).length = 64 := by rw [bytes_len, h64]
    have hsl : s.data.toList.map UInt8.toNat = bytes s := rfl
    go_wp2_with fail
    go_loopw [5] (fun v5 wr => ∃ i : Nat, i ≤ 32 ∧ v5 = .int .i64 i ∧ Below w.heap.size w wr ∧ Row wr w.heap.size 26 (Lib.byteCells (List.replicate 32 0)).toArray ∧ Row wr (w.heap.size + 1) 26 (Lib.byteCells (dgs (bytes s) i)).toArray ∧ ∀ j, j < i → goodB (bytes s) j = true) (fun v5 _ => 32 - (intOf v5).toNat)
    case atStart => exact ⟨0, by omega, rfl, hb0, hR, hD, fun j hj => absurd hj (Nat.not_lt_zero _)⟩
    case round =>
      clear hb0 hR hD
      obtain ⟨i, hi, rfl, hb, hR, hD, hgood⟩ := hrel
      by_cases hlt : i < 32
      · have hd : decide ((i : Int) < 32) = true := decide_eq_true (by omega)
        have f0 := fun w => run_index_text Tryd.underlying9 s (bytes s) hsl (2 * (i : Int)) (2 * i) (by omega) (by omega) w
        have f1 := fun w => run_index_text Tryd.underlying9 s (bytes s) hsl (2 * (i : Int) + 1) (2 * i + 1) (by omega) (by omega) w
        have ga : goodB (bytes s) i = (decide (0 ≤ hexI (g (bytes s) (2 * i))) && decide (0 ≤ hexI (g (bytes s) (2 * i + 1)))) := rfl
        have gd : dgU (bytes s) i = UInt8.ofNat (16 * (hexI (g (bytes s) (2 * i))).toNat + (hexI (g (bytes s) (2 * i + 1))).toNat) := rfl
        obtain ⟨ra0, ra1⟩ := hexI_range (g (bytes s) (2 * i))
        obtain ⟨rb0, rb1⟩ := hexI_range (g (bytes s) (2 * i + 1))
        have HA := Sec.mk (fun w n => Calls.quiet_of (n := n) (half_any (g (bytes s) (2 * i)) (sign_lt s _) (World.drewN w n)))
        have HB := Sec.mk (fun w n => Calls.quiet_of (n := n) (half_any (g (bytes s) (2 * i + 1)) (sign_lt s _) (World.drewN w n)))
        have hset := dgs_set (bytes s) i hlt
        obtain ⟨x, hcell⟩ := byteRow_cell hD i (by rw [dgs_len _ _ hi]; exact hlt)
        have hfree := hD.free i
        generalize hexI (g (bytes s) (2 * i)) = a at *
        generalize hexI (g (bytes s) (2 * i + 1)) = b at *
        generalize g (bytes s) (2 * i) = xa at *
        generalize g (bytes s) (2 * i + 1) = xb at *
        go_wp2_with fail
        go_quiet ((first | (go_at_call 69; with_reducible exact HA.out _ _) | (go_at_call 69; with_reducible exact HB.out _ _)))
        by_cases h0 : 0 ≤ a ∧ 0 ≤ b
        · have d1 : ¬ (a < 0) := by omega
          have d2 : ¬ (b < 0) := by omega
          have w1 : wrap64 (16 * a) = 16 * a := wrap_int _ (by omega)
          have w2 : wrap64 (16 * a + b) = 16 * a + b := wrap_int _ (by omega)
          go_wp2_with fail
          have ev : 16 * a + b = ((dgU (bytes s) i).toNat : Int) := by
            clear w1 w2
            obtain ⟨m, rfl⟩ := Int.eq_ofNat_of_zero_le h0.1
            obtain ⟨n, rfl⟩ := Int.eq_ofNat_of_zero_le h0.2
            rw [gd, Int.toNat_natCast, Int.toNat_natCast]
            simp
            omega
          have hDs := byteRow_set (hD.drewN nq) i (dgU (bytes s) i)
          rw [hset, ← ev] at hDs
          have hg' : goodB (bytes s) i = true := by rw [ga, decide_eq_true h0.1, decide_eq_true h0.2]; rfl
          refine ⟨⟨i + 1, by omega, by go_num, (below_drewN' hb nq).setCell (by show w.heap.size ≤ w.heap.size + 1; omega) _, (hR.drewN nq).aside (by show w.heap.size ≠ w.heap.size + 1; omega) _, hDs, fun j hj => ?_⟩, by simp [intOf]; omega⟩
          by_cases hji : j = i
          · rw [hji]; exact hg'
          · exact hgood j (by omega)
        · have hbad : ofOk s = false := by
            unfold ofOk
            rw [Bool.and_eq_false_iff]
            refine .inr ?_
            rw [List.all_eq_false]
            refine ⟨i, List.mem_range.2 hlt, ?_⟩
            rw [ga]
            intro e
            rw [Bool.and_eq_true, decide_eq_true_eq, decide_eq_true_eq] at e
            exact h0 e
          have hb9 := below_row (below_drewN' hb nq) (Nat.le_refl _) (Lib.byteCells (List.replicate 32 0)).toArray
          have hRd := hR.drewN nq
          by_cases d1 : a < 0
          · go_wp2_with (refine wpList_store_row rfl 26 (.tmp 2) (.tmp 33) rfl w.heap.size (Lib.byteCells (List.replicate 32 0)).toArray rfl rfl 26 _ hRd (i26 _ (by simp)) rfl (byteCells_all _) ?_)
            exact bodyPost_ret (hno _ _ hRd.row hb9 hbad rfl rfl) rfl ⟨by rw [hbad], hb9⟩
          · have d2 : b < 0 := by omega
            go_wp2_with (refine wpList_store_row rfl 26 (.tmp 2) (.tmp 33) rfl w.heap.size (Lib.byteCells (List.replicate 32 0)).toArray rfl rfl 26 _ hRd (i26 _ (by simp)) rfl (byteCells_all _) ?_)
            exact bodyPost_ret (hno _ _ hRd.row hb9 hbad rfl rfl) rfl ⟨by rw [hbad], hb9⟩
      · have hd : decide ((i : Int) < 32) = false := decide_eq_false (by omega)
        obtain rfl : i = 32 := by omega
        have hok : ofOk s = true := by
          unfold ofOk
          rw [beq_iff_eq.2 h64, Bool.true_and, List.all_eq_true]
          exact fun j hj => hgood j (List.mem_range.1 hj)
        have hl := dgs_len (bytes s) 32 (by omega)
        have hE := run_load_list (P := Tryd.prog) wr (w.heap.size + 1) 0 26 26 (Lib.byteCells (dgs (bytes s) 32)) (Lib.byteCells (dgs (bytes s) 32)) _ hD (fun j v hv => by rw [Nat.zero_add]; exact hv) Tryd.underlying26 rfl (by rw [Lib.byteCells_length, hl]; kernel_rfl)
        go_wp2_with (first | refine wpList_load_list rfl 26 (.tmp 4) rfl (w.heap.size + 1) 0 rfl _ hE ?_ | refine wpList_store_row rfl 26 (.tmp 2) (.tmp 41) rfl w.heap.size (Lib.byteCells (dgs (bytes s) 32)).toArray rfl rfl 26 _ hR (i26 _ hl) (by simp [Lib.byteCells_length, hl]) (byteCells_all _) ?_)
        have hb9 := below_row hb (Nat.le_refl _) (Lib.byteCells (dgs (bytes s) 32)).toArray
        have e9 : ofD s = dgs (bytes s) 32 := by rw [ofD, if_pos hok]
        refine bodyPost_ret (v := .tuple #[.agg (Lib.byteCells (dgs (bytes s) 32)).toArray, .bool true]) ?_ rfl ⟨by rw [e9, hok], hb9⟩
        rw [results_cell_tmp rfl]
        have hl2 := run_load_list (P := Tryd.prog) _ w.heap.size 0 26 26 (Lib.byteCells (dgs (bytes s) 32)) (Lib.byteCells (dgs (bytes s) 32)) _ (hR.row (C := (Lib.byteCells (dgs (bytes s) 32)).toArray)) (fun j v hv => by rw [Nat.zero_add]; exact hv) Tryd.underlying26 rfl (by rw [Lib.byteCells_length, hl]; kernel_rfl)
        simp [asAddr, hl2]
  · have c1 : ¬ (s.size : Int) = 64 := by omega
    have hk : ofOk s = false := by unfold ofOk; rw [beq_eq_false_iff_ne.2 h64, Bool.false_and]
    have hE := run_load_list (P := Tryd.prog) W (w.heap.size + 1) 0 26 26 (Lib.byteCells (dgs (bytes s) 0)) (Lib.byteCells (dgs (bytes s) 0)) _ hD (fun j v hv => by rw [Nat.zero_add]; exact hv) Tryd.underlying26 rfl (by rw [Lib.byteCells_length, dgs_len _ 0 (by omega)]; kernel_rfl)
    have e0 : dgs (bytes s) 0 = List.replicate 32 0 := rfl
    rw [e0] at hE
    go_wp2_with (first | refine wpList_load_list rfl 26 (.tmp 4) rfl (w.heap.size + 1) 0 rfl _ hE ?_ | refine wpList_store_row rfl 26 (.tmp 2) (.tmp 11) rfl w.heap.size (Lib.byteCells (List.replicate 32 0)).toArray rfl rfl 26 _ hR (i26 _ (by simp)) rfl (byteCells_all _) ?_)
    exact bodyPost_ret (hno _ _ hR.row (below_row hb0 (Nat.le_refl _) _) hk rfl rfl) rfl ⟨by rw [hk], below_row hb0 (Nat.le_refl _) _⟩
end Go.Proofs.YtokcmaehojljdaaDoor

/- The reference's Row, Dec and Put: what they compute. -/
namespace Go.Proofs.YtokcmaehojljdaaDoor
open Go.RowKit Go.Proofs.YtokcmaehojljdaaDoorW.PrintWords Go.Proofs.YtokcmaehojljdaaDoorW.PrintLast Go.Proofs.YtokcmaehojljdaaDoorW.PrintMore
open Go.Lib

theorem rdOf_at {α : Type} (d : α) (l : List α) (i : Nat) (s : α) (h : l[i]? = some s) : rdOf d l (i : Int) = s := by
  simp [rdOf, List.getD_eq_getElem?_getD, h]
theorem nums_one (n : Int) (m : Nat) (h : n = m) (hm : m < 256) : strOfNums [n % 256] = ⟨[UInt8.ofNat m].toArray⟩ := by
  subst h
  have : ((m : Int) % 256).toNat = m := by omega
  simp only [strOfNums, List.map_cons, List.map_nil, this]
theorem ref_length (d : Nat) : ∀ (n k : Nat), n < 128 ^ (d + 1) → d ≤ 8 → d < k → n ≤ 9223372036854775807 → PGet.hibernacleref01_length.f k n = some ⟨(lenU n).toArray⟩ := by
  induction d with
  | zero =>
    intro n k hn _ hk _
    obtain ⟨k, rfl⟩ : ∃ m, k = m + 1 := ⟨k - 1, by omega⟩
    have hn : n < 128 := by simpa using hn
    rw [PGet.hibernacleref01_length.f, if_pos (by omega), nums_one _ n rfl (by omega), lenU, if_pos hn]
  | succ d ih =>
    intro n k hn hd hk hm
    obtain ⟨k, rfl⟩ : ∃ m, k = m + 1 := ⟨k - 1, by omega⟩
    by_cases h : n < 128
    · rw [PGet.hibernacleref01_length.f, if_pos (by omega), nums_one _ n rfl (by omega), lenU, if_pos h]
    · have hdv : n / 128 < 128 ^ (d + 1) := by
        rw [Nat.pow_succ] at hn
        exact Nat.div_lt_of_lt_mul (by rw [Nat.mul_comm]; exact hn)
      have e1 : wrap64 (Int.tmod (n : Int) 128 + 128) = ((n % 128 + 128 : Nat) : Int) := by rw [Int.tmod_eq_emod_of_nonneg (by omega)]; unfold wrap64; omega
      have e2 : wrap64 (Int.tdiv (n : Int) 128) = ((n / 128 : Nat) : Int) := by rw [Int.tdiv_eq_ediv_of_nonneg (by omega)]; unfold wrap64; omega
      have hlen := lenU_len d (n / 128) hdv
      rw [PGet.hibernacleref01_length.f, if_neg (by omega), e1, e2]
      clear hn e1 e2
      have e3 := ih (n / 128) k hdv (by omega) (by omega) (by omega)
      simp only [Option.bind_some]
      rw [e3]
      simp only [Option.bind_some]
      rw [nums_one _ (n % 128 + 128) rfl (by omega), bytes_size, bytes_size, if_pos (by rw [List.length_singleton]; clear hdv; omega), bytes_app, lenU.eq_1 n, if_neg h]
      rfl
theorem ref_row (l : List ByteArray) (hl : l.length ≤ 140737488351232) (hr : (rowU l).length ≤ 140737488351232) (d : Nat) : ∀ (i k : Nat), i + d = l.length → d + 10 < k →
    PGet.hibernacleref01_Row.l0 k ⟨(rowU (l.take i)).toArray⟩ l (l.length : Int) i = some ⟨(rowU l).toArray⟩ := by
  induction d with
  | zero =>
    intro i k hi hk
    obtain ⟨k, rfl⟩ : ∃ m, k = m + 1 := ⟨k - 1, by omega⟩
    rw [PGet.hibernacleref01_Row.l0, if_neg (by omega), List.take_of_length_le (by omega)]
  | succ d ih =>
    intro i k hi hk
    obtain ⟨k, rfl⟩ : ∃ m, k = m + 1 := ⟨k - 1, by omega⟩
    have hlt : i < l.length := by omega
    have hsi : l[i]? = some l[i] := List.getElem?_eq_getElem hlt
    have hn := rowU_take l i _ hsi
    have hmo := rowU_mono l (i + 1)
    generalize l[i] = s at *
    have hsz : s.data.toList.length = s.size := by simp
    have hs2 : s.size ≤ 140737488351232 := by rw [hn, List.length_append, hsz] at hmo; omega
    have hmo2 : (rowU (l.take i)).length + ((lenU s.size).length + s.size) ≤ 140737488351232 := by
      rw [hn, List.length_append, List.length_append, hsz] at hmo; omega
    have w3 : wrap64 ((i : Int) + 1) = ((i + 1 : Nat) : Int) := wrap_nat _ _ rfl (by clear hmo hmo2 hn hs2 hsz; omega)
    have e1 : PGet.hibernacleref01_length.f k s.size = some ⟨(lenU s.size).toArray⟩ := ref_length 8 s.size k (Nat.lt_of_le_of_lt hs2 (by decide)) (by decide) (by clear hmo hmo2 hn hs2 hsz w3; omega) (Nat.le_trans hs2 (by decide))
    have e2 : (⟨(rowU (l.take i)).toArray⟩ : ByteArray) ++ (⟨(lenU s.size).toArray⟩ ++ s) = ⟨(rowU (l.take (i + 1))).toArray⟩ := by
      rw [hn]
      apply ByteArray.ext
      simp [ByteArray.data_append]
    rw [PGet.hibernacleref01_Row.l0, if_pos (by clear w3 hmo hmo2 hn hs2 e1 e2; omega), if_pos (by clear w3 hmo hmo2 hn hs2 e1 e2; omega), if_pos (by clear w3 hmo hmo2 hn hs2 e1 e2; omega), rdOf_at _ _ _ _ hsi, w3, e1]
    simp only [Option.bind_some]
    clear w3 e1
    rw [if_pos (by rw [bytes_size]; clear e2; omega), if_pos (by rw [ByteArray.size_append, bytes_size, bytes_size]; clear e2; omega), e2]
    clear hmo hmo2 hn hs2 e2
    exact ih (i + 1) k (by omega) (by omega)
theorem ref_row_f (l : List ByteArray) (hl : l.length ≤ 140737488351232) (hr : (rowU l).length ≤ 140737488351232) (k : Nat) (hk : l.length + 10 < k) : PGet.hibernacleref01_Row.f k l = some ⟨(rowU l).toArray⟩ := by
  have h := ref_row l hl hr l.length 0 k (by omega) hk
  rw [List.take_zero] at h
  exact h
theorem ref_put_loop (n : Nat) (hn : n < 18446744073709551616) (a1 : Int) (z : Nat) (hz : mn (mx a1 0) 8 = z) (hz8 : z ≤ 8) (d : Nat) : ∀ (i k : Nat), i + d = z → d < k →
    PGet.hibernacleref01_Put.l0 k ((n / 256 ^ i : Nat) : Int) a1 ⟨(putU n i).toArray⟩ i = some ⟨(putU n z).toArray⟩ := by
  induction d with
  | zero =>
    intro i k hi hk
    obtain ⟨k, rfl⟩ : ∃ m, k = m + 1 := ⟨k - 1, by omega⟩
    obtain rfl : i = z := by omega
    rw [PGet.hibernacleref01_Put.l0]
    by_cases h1 : (i : Int) < a1
    · rw [if_pos h1, if_neg (by unfold mn mx at hz; split at hz <;> split at hz <;> omega)]
    · rw [if_neg h1]
  | succ d ih =>
    intro i k hi hk
    obtain ⟨k, rfl⟩ : ∃ m, k = m + 1 := ⟨k - 1, by omega⟩
    have h1 : (i : Int) < a1 := by unfold mn mx at hz; split at hz <;> split at hz <;> omega
    have hle : n / 256 ^ i ≤ n := Nat.div_le_self _ _
    have e1 : Int.tmod ((n / 256 ^ i : Nat) : Int) 256 = ((n / 256 ^ i % 256 : Nat) : Int) := by rw [Int.tmod_eq_emod_of_nonneg (Int.natCast_nonneg _)]; rfl
    have e2 : Int.tdiv ((n / 256 ^ i : Nat) : Int) 256 = ((n / 256 ^ (i + 1) : Nat) : Int) := by
      rw [Int.tdiv_eq_ediv_of_nonneg (Int.natCast_nonneg _), Nat.pow_succ, ← Nat.div_div_eq_div_mul]; rfl
    have hle2 : n / 256 ^ (i + 1) ≤ n := Nat.div_le_self _ _
    have e3 : IntKind.u64.wrap ((n / 256 ^ (i + 1) : Nat) : Int) = ((n / 256 ^ (i + 1) : Nat) : Int) := by
      generalize n / 256 ^ (i + 1) = q at *
      exact IntWalk.u64_in _ (by omega)
    have w2 : wrap64 ((i : Int) + 1) = ((i + 1 : Nat) : Int) := wrap_nat _ _ rfl (by omega)
    rw [PGet.hibernacleref01_Put.l0, e1, e2, e3, w2]
    clear e1 e2 e3 w2
    rw [if_pos h1, if_pos (by omega)]
    simp only [Option.bind_some]
    rw [nums_one _ (n / 256 ^ i % 256) rfl (Nat.mod_lt _ (by decide)), bytes_size, bytes_size, putU_len, if_pos (by rw [List.length_singleton]; omega), bytes_app, ← putU_next]
    exact ih (i + 1) k (by omega) (by omega)
theorem ref_put_f (n : Nat) (hn : n < 18446744073709551616) (a1 : Int) (z : Nat) (hz : mn (mx a1 0) 8 = z) (hz8 : z ≤ 8) (k : Nat) (hk : 8 < k) : PGet.hibernacleref01_Put.f k n a1 = some ⟨(putU n z).toArray⟩ := by
  have h := ref_put_loop n hn a1 z hz hz8 z 0 k (by omega) (by omega)
  rw [Nat.pow_zero, Nat.div_one] at h
  exact h
theorem one_digit (n : Int) (m : Nat) (h : n = ((48 + m : Nat) : Int)) (hm : m < 10) : strOfNums [n % 256] = ⟨[UInt8.ofNat (48 + m)].toArray⟩ := by
  subst h
  have : (((48 + m : Nat) : Int) % 256).toNat = 48 + m := by omega
  simp only [strOfNums, List.map_cons, List.map_nil, this]
theorem ref_digit (u k : Nat) (h : u < 10) : PGet.hibernacleref01_Dec.f (k + 2) u = some ⟨(decDigits u).toArray⟩ := by
  have w : wrap64 (48 + (u : Int)) = 48 + (u : Int) := wrap_int _ (by omega)
  rw [PGet.hibernacleref01_Dec.f, if_pos (by omega), PGet.hibernacleref01_Dec.j0, if_pos (decide_eq_true (by omega)), w, one_digit _ u (by omega) h, dec_small u h]
theorem ref_dec_nat (d : Nat) : ∀ (u k : Nat), u < 10 ^ (d + 1) → u ≤ 9223372036854775807 → d ≤ 18 → 3 * d + 2 ≤ k → PGet.hibernacleref01_Dec.f k u = some ⟨(decDigits u).toArray⟩ := by
  induction d with
  | zero =>
    intro u k h _ _ hk
    obtain ⟨k, rfl⟩ : ∃ m, k = m + 2 := ⟨k - 2, by omega⟩
    exact ref_digit u k (by simpa using h)
  | succ d ih =>
    intro u k h hu hd hk
    by_cases h1 : u < 10
    · obtain ⟨k, rfl⟩ : ∃ m, k = m + 2 := ⟨k - 2, by omega⟩
      exact ref_digit u k h1
    · obtain ⟨k, rfl⟩ : ∃ m, k = m + 5 := ⟨k - 5, by omega⟩
      rw [Nat.pow_succ] at h
      have hlt : u / 10 < 10 ^ (d + 1) := by omega
      have hlen := (dec_dig d (u / 10) hlt).2.2.1
      clear h
      have e1 : Int.tmod (u : Int) 10 = ((u % 10 : Nat) : Int) := by rw [Int.tmod_eq_emod_of_nonneg (by omega)]; rfl
      have e2 : wrap64 (Int.tdiv (u : Int) 10) = ((u / 10 : Nat) : Int) := by rw [Int.tdiv_eq_ediv_of_nonneg (by omega)]; exact wrap_int _ (by omega)
      have z1 := ih (u / 10) (k + 2) hlt (by omega) (by omega) (by omega)
      have z2 := ref_digit (u % 10) k (Nat.mod_lt _ (by decide))
      rw [PGet.hibernacleref01_Dec.f, if_pos (by omega), PGet.hibernacleref01_Dec.j0, if_neg (by rw [decide_eq_false (by omega)]; decide), if_neg (by omega), PGet.hibernacleref01_Dec.j1, if_neg (by decide), e1, e2, if_neg (by omega), z1, z2]
      simp only [Option.bind_some]
      rw [bytes_size, bytes_size, dec_small (u % 10) (Nat.mod_lt _ (by decide)), if_pos (by rw [List.length_singleton]; omega), bytes_app, dec_big u h1]
theorem ref_dec_neg (d : Nat) : ∀ (u k : Nat), u < 10 ^ (d + 1) → 0 < u → u ≤ 9223372036854775808 → d ≤ 18 → 3 * d + 5 ≤ k → PGet.hibernacleref01_Dec.f k (-(u : Int)) = some ⟨(45 :: decDigits u).toArray⟩ := by
  have small : ∀ (u k : Nat), u < 10 → 0 < u → PGet.hibernacleref01_Dec.f (k + 5) (-(u : Int)) = some ⟨(45 :: decDigits u).toArray⟩ := by
    intro u k h hu
    have w : wrap64 (- -(u : Int)) = (u : Int) := by rw [Int.neg_neg]; exact wrap_int _ (by omega)
    rw [PGet.hibernacleref01_Dec.f, if_neg (by omega), PGet.hibernacleref01_Dec.j0, if_neg (by decide), if_pos (by omega), PGet.hibernacleref01_Dec.j1, if_pos (decide_eq_true (by omega)), w, ref_digit u k h]
    simp only [Option.bind_some]
    rw [bytes_size, dec_small u h, if_pos (by rw [List.length_singleton]; omega)]
    have e : (⟨#[45]⟩ : ByteArray) = ⟨[45].toArray⟩ := rfl
    rw [e, bytes_app]
    rfl
  induction d with
  | zero =>
    intro u k h hu _ _ hk
    obtain ⟨k, rfl⟩ : ∃ m, k = m + 5 := ⟨k - 5, by omega⟩
    exact small u k (by simpa using h) hu
  | succ d ih =>
    intro u k h hu hm hd hk
    obtain ⟨k, rfl⟩ : ∃ m, k = m + 5 := ⟨k - 5, by omega⟩
    by_cases h1 : u < 10
    · exact small u k h1 hu
    · rw [Nat.pow_succ] at h
      have hlt : u / 10 < 10 ^ (d + 1) := by omega
      have hlen := (dec_dig d (u / 10) hlt).2.2.1
      clear h
      have e1 : Int.tmod (-(u : Int)) 10 = -((u % 10 : Nat) : Int) := by rw [Int.neg_tmod, Int.tmod_eq_emod_of_nonneg (by omega)]; rfl
      have e2 : wrap64 (Int.tdiv (-(u : Int)) 10) = -((u / 10 : Nat) : Int) := by
        rw [Int.neg_tdiv, Int.tdiv_eq_ediv_of_nonneg (by omega)]
        exact wrap_int _ (by omega)
      have z1 := ih (u / 10) (k + 2) hlt (by omega) (by omega) (by omega) (by omega)
      have z2 := ref_digit (u % 10) k (Nat.mod_lt _ (by decide))
      have e3 : wrap64 (- -((u % 10 : Nat) : Int)) = ((u % 10 : Nat) : Int) := by rw [Int.neg_neg]; exact wrap_int _ (by omega)
      have fin : ∀ (g : Int), g = ((u % 10 : Nat) : Int) → ((PGet.hibernacleref01_Dec.f (k + 2) (-((u / 10 : Nat) : Int))).bind fun t169 => ((PGet.hibernacleref01_Dec.f (k + 2) g).bind fun t170 => (if t169.size + t170.size ≤ 9223372036854775807 then (some (t169 ++ t170)) else (none)))) = some ⟨(45 :: decDigits u).toArray⟩ := by
        rintro g rfl
        rw [z1, z2]
        simp only [Option.bind_some]
        rw [bytes_size, bytes_size, dec_small (u % 10) (Nat.mod_lt _ (by decide)), if_pos (by rw [List.length_singleton, List.length_cons]; omega), bytes_app, dec_big u h1]
        rfl
      rw [PGet.hibernacleref01_Dec.f, if_neg (by omega), PGet.hibernacleref01_Dec.j0, if_neg (by decide), if_pos (by omega), PGet.hibernacleref01_Dec.j1, if_neg (by rw [decide_eq_false (by omega)]; decide), e1, e2, e3]
      by_cases hz : u % 10 = 0
      · rw [if_neg (by omega)]
        exact fin _ (by omega)
      · rw [if_pos (by omega)]
        exact fin _ rfl
theorem ref_dec (v : Int) (h0 : -9223372036854775808 ≤ v) (h1 : v ≤ 9223372036854775807) (k : Nat) (hk : 60 ≤ k) : PGet.hibernacleref01_Dec.f k v = some (dec v) := by
  rcases itoa_parts v h0 h1 with ⟨hn, e, hb⟩ | ⟨hn, e, hb⟩
  · obtain ⟨u, rfl⟩ : ∃ u : Nat, v = -(u : Int) := ⟨v.natAbs, by omega⟩
    have e2 : (-(u : Int)).natAbs = u := by omega
    rw [e2] at e hb
    unfold dec
    rw [e]
    exact ref_dec_neg 18 u k (Nat.lt_of_le_of_lt hb (by decide)) (by omega) hb (by omega) (by omega)
  · obtain ⟨u, rfl⟩ := Int.eq_ofNat_of_zero_le hn
    rw [Int.toNat_natCast] at e hb
    unfold dec
    rw [e]
    exact ref_dec_nat 18 u k (Nat.lt_of_le_of_lt hb (by decide)) hb (by omega) (by omega)
theorem rdec_any (n : Int) (h0 : -9223372036854775808 ≤ n) (h1 : n ≤ 9223372036854775807) (w : World) : Calls Tryd.prog 22 #[.int .i64 n] w fun e w' => e = .returned (.string (dec n)) ∧ Below w.heap.size w w' :=
  (PGet.hibernacleref01_Dec.calls 60 n (dec n) w (ref_dec n h0 h1 60 (by omega))).mono fun _ _ h => ⟨h.1, h.2⟩
theorem rput_any (n : Int) (h0 : 0 ≤ n) (h1 : n ≤ 18446744073709551615) (w : World) : Calls Tryd.prog 65 #[.int .u64 n, .int .i64 8] w fun e w' => e = .returned (.string ⟨(putU n.toNat 8).toArray⟩) ∧ Below w.heap.size w w' := by
  obtain ⟨m, rfl⟩ := Int.eq_ofNat_of_zero_le h0
  exact (PGet.hibernacleref01_Put.calls 9 m 8 _ w (ref_put_f m (by omega) 8 8 (by decide) (by decide) 9 (by omega))).mono fun _ _ h => ⟨h.1, h.2⟩
theorem rrow_any (A : Option Addr) (c : Nat) (l : List ByteArray) (w : World) (hC : Kd.C Kd.string w A l.length l) (hc : l.length ≤ c) (hl : l.length ≤ 140737488351232) (hr : (rowU l).length ≤ 140737488351232) :
    Calls Tryd.prog 21 #[.slice A l.length c] w fun e w' => e = .returned (.string ⟨(rowU l).toArray⟩) ∧ Below w.heap.size w w' :=
  (PGet.hibernacleref01_Row.calls (l.length + 11) A c l _ w hC hc (ref_row_f l hl hr (l.length + 11) (by omega))).mono fun _ _ h => ⟨h.1, h.2⟩
end Go.Proofs.YtokcmaehojljdaaDoor

namespace Go.Proofs.YtokcmaehojljdaaDoor.PGet
open Go.RowKit Go.Proofs.YtokcmaehojljdaaDoorW.PrintWords Go.Proofs.YtokcmaehojljdaaDoorW.PrintLast Go.Proofs.YtokcmaehojljdaaDoorW.PrintMore
attribute [local go_sem] max2_int min2_int max_two min_two max_three min_three max_four min_four   -- for this text's walks alone
set_option linter.unusedVariables false
set_option linter.unusedSimpArgs false

/-! ### num_read: function 53 -/
mutual
def num_read.l0 : Nat → ByteArray → Int → Int → Int → Option (Int × Int × Int)
  | 0, _, _, _, _ => none
  | k + 1, x0, x2, x8, x9 => if x9 < x8 then (if 0 ≤ x9 then (if x9 < (x0.size : Int) then (if x9 = 3 then (num_read.j1 k x0 x2 x9 (wrap64 (bt x0 x9)) x8 x9 (decide ((wrap64 (bt x0 x9)) ≥ 128))) else (num_read.j1 k x0 x2 x9 (wrap64 (bt x0 x9)) x8 x9 false)) else (none)) else (none)) else (some (0, 0, 4))
def num_read.j1 : Nat → ByteArray → Int → Int → Int → Int → Int → Bool → Option (Int × Int × Int)
  | 0, _, _, _, _, _, _, _ => none
  | k + 1, x0, x2, x5, x6, x8, x9, x16 => if x16 = true then (num_read.j2 k x0 x2 x5 x6 x8 x9 x16) else (if x5 > 0 then (num_read.j2 k x0 x2 x5 x6 x8 x9 (x6 == 0)) else (num_read.j2 k x0 x2 x5 x6 x8 x9 false))
def num_read.j2 : Nat → ByteArray → Int → Int → Int → Int → Int → Bool → Option (Int × Int × Int)
  | 0, _, _, _, _, _, _, _ => none
  | k + 1, x0, x2, x5, x6, x8, x9, x16 => if x16 = true then (some (0, 0, 3)) else (if 0 ≤ (wrap64 (7 * x5)) then (if x6 < 128 then (some (wrap64 (x2 + (shl .i64 (Int.tmod x6 128) (wrap64 (7 * x5)))), wrap64 (x5 + 1), 0)) else (num_read.l0 k x0 (wrap64 (x2 + (shl .i64 (Int.tmod x6 128) (wrap64 (7 * x5))))) x8 (wrap64 (x9 + 1)))) else (none))
end
def num_read.f (k : Nat) (a0 : ByteArray) : Option (Int × Int × Int) := num_read.l0 k a0 0 (a0.size : Int) 0
theorem num_read.mono_l : ∀ k, (∀ y0 y1 y2 y3, LeO (num_read.l0 k y0 y1 y2 y3) (num_read.l0 (k + 1) y0 y1 y2 y3)) ∧ (∀ y0 y1 y2 y3 y4 y5 y6, LeO (num_read.j1 k y0 y1 y2 y3 y4 y5 y6) (num_read.j1 (k + 1) y0 y1 y2 y3 y4 y5 y6)) ∧ (∀ y0 y1 y2 y3 y4 y5 y6, LeO (num_read.j2 k y0 y1 y2 y3 y4 y5 y6) (num_read.j2 (k + 1) y0 y1 y2 y3 y4 y5 y6))
  | 0 => ⟨fun _ _ _ _ r h => by simp [num_read.l0] at h, fun _ _ _ _ _ _ _ r h => by simp [num_read.j1] at h, fun _ _ _ _ _ _ _ r h => by simp [num_read.j2] at h⟩
  | k + 1 => by
    obtain ⟨ih0, ih1, ih2⟩ := num_read.mono_l k
    refine ⟨?_, ?_, ?_⟩
    · intro y0 y1 y2 y3
      unfold num_read.l0
      repeat' first
      | (with_reducible exact ih0 _ _ _ _)
      | (with_reducible exact ih1 _ _ _ _ _ _ _)
      | (with_reducible exact ih2 _ _ _ _ _ _ _)
      | (with_reducible exact LeO.refl _)
      | (with_reducible exact LeO.none _)
      | (with_reducible refine LeO.ite ?_ ?_)
      | (with_reducible refine LeO.bind ?_ (fun _ => ?_))
      | exact ih0 _ _ _ _
      | exact ih1 _ _ _ _ _ _ _
      | exact ih2 _ _ _ _ _ _ _
      | exact LeO.none _
      | refine LeO.ite ?_ ?_
      | refine LeO.bind ?_ (fun _ => ?_)
    · intro y0 y1 y2 y3 y4 y5 y6
      unfold num_read.j1
      repeat' first
      | (with_reducible exact ih0 _ _ _ _)
      | (with_reducible exact ih1 _ _ _ _ _ _ _)
      | (with_reducible exact ih2 _ _ _ _ _ _ _)
      | (with_reducible exact LeO.refl _)
      | (with_reducible exact LeO.none _)
      | (with_reducible refine LeO.ite ?_ ?_)
      | (with_reducible refine LeO.bind ?_ (fun _ => ?_))
      | exact ih0 _ _ _ _
      | exact ih1 _ _ _ _ _ _ _
      | exact ih2 _ _ _ _ _ _ _
      | exact LeO.none _
      | refine LeO.ite ?_ ?_
      | refine LeO.bind ?_ (fun _ => ?_)
    · intro y0 y1 y2 y3 y4 y5 y6
      unfold num_read.j2
      repeat' first
      | (with_reducible exact ih0 _ _ _ _)
      | (with_reducible exact ih1 _ _ _ _ _ _ _)
      | (with_reducible exact ih2 _ _ _ _ _ _ _)
      | (with_reducible exact LeO.refl _)
      | (with_reducible exact LeO.none _)
      | (with_reducible refine LeO.ite ?_ ?_)
      | (with_reducible refine LeO.bind ?_ (fun _ => ?_))
      | exact ih0 _ _ _ _
      | exact ih1 _ _ _ _ _ _ _
      | exact ih2 _ _ _ _ _ _ _
      | exact LeO.none _
      | refine LeO.ite ?_ ?_
      | refine LeO.bind ?_ (fun _ => ?_)
theorem num_read.mono : ∀ a0 k, LeO (num_read.f k a0) (num_read.f (k + 1) a0) := by
  intro a0 k
  obtain ⟨ih0, ih1, ih2⟩ := num_read.mono_l k
  unfold num_read.f
  repeat' first
      | (with_reducible exact ih0 _ _ _ _)
      | (with_reducible exact ih1 _ _ _ _ _ _ _)
      | (with_reducible exact ih2 _ _ _ _ _ _ _)
      | (with_reducible exact LeO.refl _)
      | (with_reducible exact LeO.none _)
      | (with_reducible refine LeO.ite ?_ ?_)
      | (with_reducible refine LeO.bind ?_ (fun _ => ?_))
      | exact ih0 _ _ _ _
      | exact ih1 _ _ _ _ _ _ _
      | exact ih2 _ _ _ _ _ _ _
      | exact LeO.none _
      | refine LeO.ite ?_ ?_
      | refine LeO.bind ?_ (fun _ => ?_)
set_option maxHeartbeats 8000000 in
set_option maxRecDepth 100000 in
theorem num_read.calls (k : Nat) (a0 : ByteArray) (r1 : Int) (r2 : Int) (r3 : Int) (w : World) (h : num_read.f k a0 = some (r1, r2, r3)) :
    Calls Tryd.prog 53 #[.string a0] w fun e w' => e = .returned (.tuple #[.int .i64 r1, .int .i64 r2, .int .i64 r3]) ∧ Drawn0 w w' := by
  have H : (num_read.l0 k a0 0 (a0.size : Int) 0) = some (r1, r2, r3) := h
  clear h
  have H' := Aside0.mk H
  clear H
  go_enter Tryd.func53, Tryd.ntmps53
  go_wp2
  go_loopg [2, 9] k (fun kq v2 v9 w' => ∃ (x2_1 : Int) (x9_1 : Int), v2 = .int .i64 x2_1 ∧ v9 = .int .i64 x9_1 ∧ Aside0 (num_read.l0 kq a0 x2_1 (a0.size : Int) x9_1 = some (r1, r2, r3)) ∧ Aside0 (kq ≤ k) ∧ Drawn0 w w')
  case atStart => exact ⟨(0), (0), (by first | rfl | (simp; done) | (simp [*]; done)), (by first | rfl | (simp; done) | (simp [*]; done)), H', ⟨Nat.le_refl _⟩, by repeat (first | exact Drawn0.refl _ | apply Drawn0.step)⟩
  case round =>
    clear H'
    obtain ⟨x2_1, x9_1, rfl, rfl, HA, HK1, ⟨m1, rfl⟩⟩ := hrel
    cases gk with
    | zero => exact absurd HA.out (by simp [num_read.l0])
    | succ k1 =>
      have H := HA.out
      clear HA
      simp only [num_read.l0] at H
      by_cases c2 : x9_1 < (a0.size : Int)
      · rw [if_pos c2] at H
        have c2b0 : decide (x9_1 < (a0.size : Int)) = true := decide_eq_true c2
        clear c2
        by_cases c3 : 0 ≤ x9_1
        · rw [if_pos c3] at H
          have c3b0 : decide (0 ≤ x9_1) = true := decide_eq_true c3
          clear c3
          by_cases c4 : x9_1 < (a0.size : Int)
          · rw [if_pos c4] at H
            have c4b0 : decide (x9_1 < (a0.size : Int)) = true := decide_eq_true c4
            clear c4
            have HC6 := Aside0.mk H
            clear H
            have p5 : 0 ≤ (x9_1 : Int) := of_decide_eq_true (by first | (with_reducible assumption) | assumption)
            have q5 : x9_1 < (a0.size : Int) := of_decide_eq_true (by first | (with_reducible assumption) | assumption)
            have hx5 := bt_at a0 x9_1
            replace p5 := eq_true p5
            replace q5 := eq_true q5
            go_upto_region 5 with (fail)
            go_cut [16] (fun v16 wc => ∃ (kq : Nat) (x16_5 : Bool), v16 = .bool x16_5 ∧ Aside0 (num_read.j1 kq a0 x2_1 x9_1 (wrap64 (bt a0 x9_1)) (a0.size : Int) x9_1 x16_5 = some (r1, r2, r3)) ∧ Aside0 (kq ≤ k1) ∧ Drawn0 w wc)
            case first =>
              have H := HC6.out
              clear HC6
              by_cases c7 : x9_1 = 3
              · rw [if_pos c7] at H
                have c7b0 : (x9_1 == 3) = true := beq_iff_eq.mpr c7
                have c7b1 : (x9_1 != 3) = false := bne_eq_false_iff_eq.mpr c7
                clear c7
                (first | rw [c7b0] | (simp only [i64_w, i32_w]; rw [c7b0]) | skip)
                have H' := Aside0.mk H
                clear H
                go_wp2
                go_meet
                case rel => exact ⟨_, (decide ((wrap64 (bt a0 x9_1)) ≥ 128)), (by first | rfl | (simp; done) | (simp [*]; done)), H', ⟨by have := HK1.out; first | omega | exact Nat.le_refl _⟩, by repeat (first | exact Drawn0.refl _ | apply Drawn0.step)⟩
              · rw [if_neg c7] at H
                have c7b0 : (x9_1 == 3) = false := beq_eq_false_iff_ne.mpr c7
                have c7b1 : (x9_1 != 3) = true := bne_iff_ne.mpr c7
                (first | rw [c7b0] | (simp only [i64_w, i32_w]; rw [c7b0]) | skip)
                have H' := Aside0.mk H
                clear H
                go_wp2
                go_meet
                case rel => exact ⟨_, (false), (by first | rfl | (simp; done) | (simp [*]; done)), H', ⟨by have := HK1.out; first | omega | exact Nat.le_refl _⟩, by repeat (first | exact Drawn0.refl _ | apply Drawn0.step)⟩
            case rest =>
              clear HC6
              try clear c2
              try clear c2b0
              try clear p2
              try clear c3
              try clear c3b0
              try clear c4
              try clear c4b0
              try clear c5
              try clear p5
              try clear q5
              try clear hx5
              try clear p6
              try clear c7
              try clear c7b0
              try clear c7b1
              try clear p5
              try clear q5
              obtain ⟨kq, x16_5, rfl, HA, HJ5, ⟨mc5, rfl⟩⟩ := hcut
              cases kq with
              | zero => exact absurd HA.out (by simp [num_read.j1])
              | succ kj5 =>
                have H := HA.out
                clear HA
                simp only [num_read.j1] at H
                have HC8 := Aside0.mk H
                clear H
                go_upto_if 16 with (fail)
                go_cut [16] (fun v16 wc => ∃ (kq : Nat) (x16_7 : Bool), v16 = .bool x16_7 ∧ Aside0 (num_read.j2 kq a0 x2_1 x9_1 (wrap64 (bt a0 x9_1)) (a0.size : Int) x9_1 x16_7 = some (r1, r2, r3)) ∧ Aside0 (kq ≤ kj5) ∧ Drawn0 w wc)
                case first =>
                  have H := HC8.out
                  clear HC8
                  by_cases c9 : x16_5 = true
                  · subst c9
                    have H1 : (num_read.j2 kj5 a0 x2_1 x9_1 (wrap64 (bt a0 x9_1)) (a0.size : Int) x9_1 true) = some (r1, r2, r3) := by rw [if_pos rfl] at H; exact H
                    clear H
                    have H := H1
                    clear H1
                    have H' := Aside0.mk H
                    clear H
                    go_wp2
                    go_meet
                    case rel => exact ⟨_, (true), (by first | rfl | (simp; done) | (simp [*]; done)), H', ⟨by have := HK1.out; have := HJ5.out; first | omega | exact Nat.le_refl _⟩, by repeat (first | exact Drawn0.refl _ | apply Drawn0.step)⟩
                  · replace c9 := Bool.eq_false_iff.mpr c9
                    subst c9
                    have H1 : (if x9_1 > 0 then (num_read.j2 kj5 a0 x2_1 x9_1 (wrap64 (bt a0 x9_1)) (a0.size : Int) x9_1 ((wrap64 (bt a0 x9_1)) == 0)) else (num_read.j2 kj5 a0 x2_1 x9_1 (wrap64 (bt a0 x9_1)) (a0.size : Int) x9_1 false)) = some (r1, r2, r3) := by rw [if_neg (show ¬ (false = true) by decide)] at H; exact H
                    clear H
                    have H := H1
                    clear H1
                    by_cases c10 : x9_1 > 0
                    · rw [if_pos c10] at H
                      have c10b0 : decide (0 < x9_1) = true := decide_eq_true c10
                      clear c10
                      (first | rw [c10b0] | (simp only [i64_w, i32_w]; rw [c10b0]) | skip)
                      have H' := Aside0.mk H
                      clear H
                      go_wp2
                      go_meet
                      case rel => exact ⟨_, (((wrap64 (bt a0 x9_1)) == 0)), (by first | rfl | (simp; done) | (simp [*]; done)), H', ⟨by have := HK1.out; have := HJ5.out; first | omega | exact Nat.le_refl _⟩, by repeat (first | exact Drawn0.refl _ | apply Drawn0.step)⟩
                    · rw [if_neg c10] at H
                      have c10b0 : decide (0 < x9_1) = false := decide_eq_false c10
                      clear c10
                      (first | rw [c10b0] | (simp only [i64_w, i32_w]; rw [c10b0]) | skip)
                      have H' := Aside0.mk H
                      clear H
                      go_wp2
                      go_meet
                      case rel => exact ⟨_, (false), (by first | rfl | (simp; done) | (simp [*]; done)), H', ⟨by have := HK1.out; have := HJ5.out; first | omega | exact Nat.le_refl _⟩, by repeat (first | exact Drawn0.refl _ | apply Drawn0.step)⟩
                case rest =>
                  clear HC8
                  try clear c1
                  try clear c2
                  try clear c2b0
                  try clear p2
                  try clear c3
                  try clear c3b0
                  try clear c4
                  try clear c4b0
                  try clear c5
                  try clear p5
                  try clear q5
                  try clear hx5
                  try clear p6
                  try clear c7
                  try clear c7b0
                  try clear c7b1
                  try clear c9
                  try clear c10
                  try clear c10b0
                  try clear p2
                  try clear p5
                  try clear p6
                  try clear q5
                  obtain ⟨kq, x16_7, rfl, HA, HJ7, ⟨mc7, rfl⟩⟩ := hcut
                  cases kq with
                  | zero => exact absurd HA.out (by simp [num_read.j2])
                  | succ kj7 =>
                    have H := HA.out
                    clear HA
                    simp only [num_read.j2] at H
                    by_cases c11 : x16_7 = true
                    · subst c11
                      have H1 : (some (0, 0, 3)) = some (r1, r2, r3) := by rw [if_pos rfl] at H; exact H
                      clear H
                      have H := H1
                      clear H1
                      simp only [Option.some.injEq, Prod.mk.injEq] at H
                      obtain ⟨rfl, rfl, rfl⟩ := H
                      go_wp2
                      go_ret3
                      exact ⟨by first | rfl | (simp; done) | (simp [*]; done), by repeat (first | exact Drawn0.refl _ | apply Drawn0.step)⟩
                    · replace c11 := Bool.eq_false_iff.mpr c11
                      subst c11
                      have H1 : (if 0 ≤ (wrap64 (7 * x9_1)) then (if (wrap64 (bt a0 x9_1)) < 128 then (some (wrap64 (x2_1 + (shl .i64 (Int.tmod (wrap64 (bt a0 x9_1)) 128) (wrap64 (7 * x9_1)))), wrap64 (x9_1 + 1), 0)) else (num_read.l0 kj7 a0 (wrap64 (x2_1 + (shl .i64 (Int.tmod (wrap64 (bt a0 x9_1)) 128) (wrap64 (7 * x9_1))))) (a0.size : Int) (wrap64 (x9_1 + 1)))) else (none)) = some (r1, r2, r3) := by rw [if_neg (show ¬ (false = true) by decide)] at H; exact H
                      clear H
                      have H := H1
                      clear H1
                      obtain ⟨ji12, hji12⟩ : ∃ j_ : Int, (wrap64 (7 * x9_1)) = j_ := ⟨_, rfl⟩
                      replace H : (if 0 ≤ (ji12) then (if (wrap64 (bt a0 x9_1)) < 128 then (some (wrap64 (x2_1 + (shl .i64 (Int.tmod (wrap64 (bt a0 x9_1)) 128) (ji12))), wrap64 (x9_1 + 1), 0)) else (num_read.l0 kj7 a0 (wrap64 (x2_1 + (shl .i64 (Int.tmod (wrap64 (bt a0 x9_1)) 128) (ji12)))) (a0.size : Int) (wrap64 (x9_1 + 1)))) else (none)) = some (r1, r2, r3) := by first | (rw [hji12] at H; exact H) | (simp only [hji12] at H ⊢; exact H)
                      have hji12w : (IntKind.i64.wrap (7 * x9_1)) = ji12 := (i64_w _).trans hji12
                      by_cases c13 : 0 ≤ (ji12)
                      · rw [if_pos c13] at H
                        have c13b0 := eq_true c13
                        have c13b1 : decide (0 ≤ (ji12)) = true := decide_eq_true c13
                        clear c13
                        obtain ⟨ji14, hji14⟩ : ∃ j_ : Int, (shl .i64 (Int.tmod (wrap64 (bt a0 x9_1)) 128) (ji12)) = j_ := ⟨_, rfl⟩
                        replace H : (if (wrap64 (bt a0 x9_1)) < 128 then (some (wrap64 (x2_1 + (ji14)), wrap64 (x9_1 + 1), 0)) else (num_read.l0 kj7 a0 (wrap64 (x2_1 + (ji14))) (a0.size : Int) (wrap64 (x9_1 + 1)))) = some (r1, r2, r3) := by first | (rw [hji14] at H; exact H) | (simp only [hji14] at H ⊢; exact H)
                        have hji14_ : (IntKind.i64.wrap ((Int.tmod (wrap64 (bt a0 x9_1)) 128) * 2 ^ min (ji12).toNat 64)) = ji14 := hji14
                        have hji14z : (ji12) ≤ 64 → (IntKind.i64.wrap ((Int.tmod (wrap64 (bt a0 x9_1)) 128) * 2 ^ (ji12).toNat)) = ji14 := shl_small hji14
                        have hji14y : (wrap64 ((Int.tmod (wrap64 (bt a0 x9_1)) 128) * 2 ^ min (ji12).toNat 64)) = ji14 := (i64_w _).symm.trans hji14_
                        have hji14x : (ji12) ≤ 64 → (wrap64 ((Int.tmod (wrap64 (bt a0 x9_1)) 128) * 2 ^ (ji12).toNat)) = ji14 := fun h_ => (i64_w _).symm.trans (hji14z h_)
                        by_cases c15 : (wrap64 (bt a0 x9_1)) < 128
                        · rw [if_pos c15] at H
                          have c15b0 : decide ((wrap64 (bt a0 x9_1)) < 128) = true := decide_eq_true c15
                          clear c15
                          simp only [Option.some.injEq, Prod.mk.injEq] at H
                          obtain ⟨rfl, rfl, rfl⟩ := H
                          go_wp2
                          go_ret3
                          exact ⟨by first | rfl | (simp; done) | (simp only [← hji12, ← hji14] <;> (first | rfl | simp)) | (simp [*]; done), by repeat (first | exact Drawn0.refl _ | apply Drawn0.step)⟩
                        · rw [if_neg c15] at H
                          have c15b0 : decide ((wrap64 (bt a0 x9_1)) < 128) = false := decide_eq_false c15
                          clear c15
                          have H' := Aside0.mk H
                          clear H
                          go_wp2
                          go_roundg kj7
                          case measure => have := HK1.out; have := HJ5.out; have := HJ7.out; omega
                          case rel => exact ⟨(wrap64 (x2_1 + (ji14))), (wrap64 (x9_1 + 1)), (by first | rfl | (simp; done) | (simp only [← hji14] <;> (first | rfl | simp)) | (simp [*]; done)), (by first | rfl | (simp; done) | (simp [*]; done)), H', ⟨by have := HK1.out; have := HJ5.out; have := HJ7.out; omega⟩, by repeat (first | exact Drawn0.refl _ | apply Drawn0.step)⟩
                      · rw [if_neg c13] at H
                        exact absurd H (by simp)
          · rw [if_neg c4] at H
            exact absurd H (by simp)
        · rw [if_neg c3] at H
          exact absurd H (by simp)
      · rw [if_neg c2] at H
        have c2b0 : decide (x9_1 < (a0.size : Int)) = false := decide_eq_false c2
        clear c2
        simp only [Option.some.injEq, Prod.mk.injEq] at H
        obtain ⟨rfl, rfl, rfl⟩ := H
        go_wp2
        go_ret3
        exact ⟨by first | rfl | (simp; done) | (simp [*]; done), by repeat (first | exact Drawn0.refl _ | apply Drawn0.step)⟩

/-! ### num_Texts: function 29 -/
def num_Texts.l0 : Nat → ByteArray → List ByteArray → Option (List ByteArray × Int)
  | 0, _, _ => none
  | k + 1, x0, x4 => if x0.toList = ([] : List UInt8) then (some (x4, 0)) else ((num_read.f k x0).bind fun bt133 => (if bt133.2.2 = 0 then (if (wrap64 ((x0.size : Int) - bt133.2.1)) < bt133.1 then (some (([] : List ByteArray), 4)) else (if 0 ≤ bt133.2.1 then (if bt133.2.1 ≤ (wrap64 (bt133.2.1 + bt133.1)) then (if (wrap64 (bt133.2.1 + bt133.1)) ≤ (x0.size : Int) then (if x4.length < 8796093022208 then (if 0 ≤ (wrap64 (bt133.2.1 + bt133.1)) then (num_Texts.l0 k (x0.extract ((wrap64 (bt133.2.1 + bt133.1)) : Int).toNat x0.size) (x4 ++ [x0.extract (bt133.2.1 : Int).toNat ((wrap64 (bt133.2.1 + bt133.1)) : Int).toNat])) else (none)) else (none)) else (none)) else (none)) else (none))) else (some (([] : List ByteArray), bt133.2.2))))
def num_Texts.f (k : Nat) (a0 : ByteArray) : Option (List ByteArray × Int) := num_Texts.l0 k a0 ([] : List ByteArray)
theorem num_Texts.mono_l : ∀ k, (∀ y0 y1, LeO (num_Texts.l0 k y0 y1) (num_Texts.l0 (k + 1) y0 y1))
  | 0 => fun _ _ r h => by simp [num_Texts.l0] at h
  | k + 1 => by
    have ih0 := num_Texts.mono_l k
    · intro y0 y1
      unfold num_Texts.l0
      repeat' first
      | (with_reducible exact ih0 _ _)
      | (with_reducible exact num_read.mono _ _)
      | (with_reducible exact LeO.refl _)
      | (with_reducible exact LeO.none _)
      | (with_reducible refine LeO.ite ?_ ?_)
      | (with_reducible refine LeO.bind ?_ (fun _ => ?_))
      | exact ih0 _ _
      | exact num_read.mono _ _
      | exact LeO.none _
      | refine LeO.ite ?_ ?_
      | refine LeO.bind ?_ (fun _ => ?_)
theorem num_Texts.mono : ∀ a0 k, LeO (num_Texts.f k a0) (num_Texts.f (k + 1) a0) := by
  intro a0 k
  have ih0 := num_Texts.mono_l k
  unfold num_Texts.f
  repeat' first
      | (with_reducible exact ih0 _ _)
      | (with_reducible exact num_read.mono _ _)
      | (with_reducible exact LeO.refl _)
      | (with_reducible exact LeO.none _)
      | (with_reducible refine LeO.ite ?_ ?_)
      | (with_reducible refine LeO.bind ?_ (fun _ => ?_))
      | exact ih0 _ _
      | exact num_read.mono _ _
      | exact LeO.none _
      | refine LeO.ite ?_ ?_
      | refine LeO.bind ?_ (fun _ => ?_)
set_option maxHeartbeats 8000000 in
set_option maxRecDepth 100000 in
theorem num_Texts.calls (k : Nat) (a0 : ByteArray) (r1 : List ByteArray) (r2 : Int) (w : World) (h : num_Texts.f k a0 = some (r1, r2)) :
    Calls Tryd.prog 29 #[.string a0] w fun e w' => ∃ v0_ : Value, e = .returned (.tuple #[v0_, .int .i64 r2]) ∧ Kd.R Kd.string 9 w' w.heap.size (fun _ => True) v0_ r1 ∧ Below w.heap.size w w' := by
  have HB := Aside0.mk (Below.refl w.heap.size w)
  have H : (num_Texts.l0 k a0 ([] : List ByteArray)) = some (r1, r2) := h
  clear h
  have H' := Aside0.mk H
  clear H
  go_enter Tryd.func29, Tryd.ntmps29
  go_wp2
  go_loopg [0, 4] k (fun kq v0 v4 w' => ∃ (x0_1 : ByteArray) (x4_1 : List ByteArray), v0 = .string x0_1 ∧ Aside0 (num_Texts.l0 kq x0_1 x4_1 = some (r1, r2)) ∧ Aside0 (kq ≤ k) ∧ Aside0 (Kd.R Kd.string 9 w' w.heap.size (fun _ => True) v4 x4_1) ∧ Aside0 (Below w.heap.size w w'))
  case atStart => exact ⟨(a0), (([] : List ByteArray)), (by first | rfl | (simp; done) | (simp [*]; done)), H', ⟨Nat.le_refl _⟩, ⟨by first | exact Kd.R_nil _ _ _ _ _ | exact Kd.N_nil _ _ _ _ _ | exact Kd.V_nil _ _ _ _ _ | exact Kd.Q_nil _ _ _ _ _ | exact Kd.S_nil _ _ _ _ _⟩, ⟨by repeat (first | (with_reducible first | exact HB.out | apply below_alloc | apply pw_below_drewN | apply below_drew1) | exact HB.out)⟩⟩
  case round =>
    clear H'
    obtain ⟨x0_1, x4_1, rfl, HA, HK1, HO_4, HB⟩ := hrel
    cases gk with
    | zero => exact absurd HA.out (by simp [num_Texts.l0])
    | succ k1 =>
      have H := HA.out
      clear HA
      simp only [num_Texts.l0] at H
      by_cases c2 : x0_1.toList = ([] : List UInt8)
      · rw [if_pos c2] at H
        have c2b0 : (x0_1.toList == ([] : List UInt8)) = true := beq_iff_eq.mpr c2
        have c2b1 : (x0_1.toList != ([] : List UInt8)) = false := bne_eq_false_iff_eq.mpr c2
        clear c2
        simp only [Option.some.injEq, Prod.mk.injEq] at H
        obtain ⟨rfl, rfl⟩ := H
        go_wp2
        go_ret2
        exact ⟨_, by first | rfl | (simp [errW_none, errW_some] <;> rfl) | (simp [*, errW_none, errW_some] <;> rfl), by (with_reducible repeat (first | apply Kd.R_alloc | apply Kd.R_drewN | apply Kd.R_drew)); exact HO_4.out, by repeat (first | (with_reducible first | exact HB.out | apply below_alloc | apply pw_below_drewN | apply below_drew1) | exact HB.out)⟩
      · rw [if_neg c2] at H
        have c2b0 : (x0_1.toList == ([] : List UInt8)) = false := beq_eq_false_iff_ne.mpr c2
        have c2b1 : (x0_1.toList != ([] : List UInt8)) = true := bne_iff_ne.mpr c2
        replace H := Option.bind_eq_some_iff.mp H
        obtain ⟨⟨t133, t134, t135⟩, A30, H⟩ := H
        replace H : (if t135 = 0 then (if (wrap64 ((x0_1.size : Int) - t134)) < t133 then (some (([] : List ByteArray), 4)) else (if 0 ≤ t134 then (if t134 ≤ (wrap64 (t134 + t133)) then (if (wrap64 (t134 + t133)) ≤ (x0_1.size : Int) then (if x4_1.length < 8796093022208 then (if 0 ≤ (wrap64 (t134 + t133)) then (num_Texts.l0 k1 (x0_1.extract ((wrap64 (t134 + t133)) : Int).toNat x0_1.size) (x4_1 ++ [x0_1.extract (t134 : Int).toNat ((wrap64 (t134 + t133)) : Int).toNat])) else (none)) else (none)) else (none)) else (none)) else (none))) else (some (([] : List ByteArray), t135))) = some (r1, r2) := H
        have A3 := Aside0.mk A30
        clear A30
        by_cases c4 : t135 = 0
        · rw [if_pos c4] at H
          have c4b0 : (t135 == 0) = true := beq_iff_eq.mpr c4
          have c4b1 : (t135 != 0) = false := bne_eq_false_iff_eq.mpr c4
          clear c4
          by_cases c5 : (wrap64 ((x0_1.size : Int) - t134)) < t133
          · rw [if_pos c5] at H
            have c5b0 : decide ((wrap64 ((x0_1.size : Int) - t134)) < t133) = true := decide_eq_true c5
            clear c5
            simp only [Option.some.injEq, Prod.mk.injEq] at H
            obtain ⟨rfl, rfl⟩ := H
            go_wp2_with (first | ((with_reducible refine gate_callee (f := 53) rfl ?_); refine goesL_ (some 12) rfl rfl Tryd.func53 (by kernel_rfl) rfl #[.string x0_1] rfl (by (try simp only [List.map_toArray, List.map_cons, List.map_nil]); first | done | rfl | (simp only [List.length_drop, List.length_take]; rfl)) ?_; (with_reducible refine (num_read.calls k1 x0_1 t133 t134 t135 _ A3.out).mono ?_); rintro e w' ⟨rfl, ⟨nd, rfl⟩⟩; refine ⟨_, rfl, ?_⟩))
            go_ret2
            exact ⟨_, by first | rfl | (simp [errW_none, errW_some] <;> rfl) | (simp [*, errW_none, errW_some] <;> rfl), by first | exact Kd.R_nil _ _ _ _ _ | exact Kd.N_nil _ _ _ _ _ | exact Kd.V_nil _ _ _ _ _ | exact Kd.Q_nil _ _ _ _ _ | exact Kd.S_nil _ _ _ _ _, by repeat (first | (with_reducible first | exact HB.out | apply below_alloc | apply pw_below_drewN | apply below_drew1) | exact HB.out)⟩
          · rw [if_neg c5] at H
            have c5b0 : decide ((wrap64 ((x0_1.size : Int) - t134)) < t133) = false := decide_eq_false c5
            clear c5
            by_cases c6 : 0 ≤ t134
            · rw [if_pos c6] at H
              have c6b0 := eq_true c6
              have c6b1 : decide (0 ≤ t134) = true := decide_eq_true c6
              clear c6
              by_cases c7 : t134 ≤ (wrap64 (t134 + t133))
              · rw [if_pos c7] at H
                have c7b0 := eq_true c7
                have c7b1 : decide (t134 ≤ (wrap64 (t134 + t133))) = true := decide_eq_true c7
                by_cases c8 : (wrap64 (t134 + t133)) ≤ (x0_1.size : Int)
                · rw [if_pos c8] at H
                  have c8b0 := eq_true c8
                  have c8b1 : decide ((wrap64 (t134 + t133)) ≤ (x0_1.size : Int)) = true := decide_eq_true c8
                  by_cases c9 : x4_1.length < 8796093022208
                  · rw [if_pos c9] at H
                    have LMc9 := Aside0.mk c9
                    clear c9
                    obtain ⟨y136, hy136⟩ : ∃ y_ : List ByteArray, y_ = (x4_1 ++ [x0_1.extract (t134 : Int).toNat ((wrap64 (t134 + t133)) : Int).toNat]) := ⟨_, rfl⟩
                    replace H : (if 0 ≤ (wrap64 (t134 + t133)) then (num_Texts.l0 k1 (x0_1.extract ((wrap64 (t134 + t133)) : Int).toNat x0_1.size) y136) else (none)) = some (r1, r2) := by first | (rw [hy136]; with_reducible exact H) | (have H2_ := (Option.bind_some _ _).symm.trans H; rw [hy136]; with_reducible exact H2_) | (have H2_ := (Option.bind_some _ _).symm.trans H; with_reducible exact H2_) | with_reducible exact H | (rw [hy136]; exact H) | exact H
                    have Ny136 := Aside0.mk hy136
                    clear hy136
                    obtain ⟨ji10, hji10⟩ : ∃ j_ : Int, (wrap64 (t134 + t133)) = j_ := ⟨_, rfl⟩
                    replace H : (if 0 ≤ (ji10) then (num_Texts.l0 k1 (x0_1.extract ((ji10) : Int).toNat x0_1.size) y136) else (none)) = some (r1, r2) := by first | (rw [hji10] at H; exact H) | (simp only [hji10] at H ⊢; exact H)
                    (try rw [hji10] at c7b0)
                    (try rw [hji10] at c7b1)
                    (try rw [hji10] at c7)
                    (try rw [hji10] at c8b0)
                    (try rw [hji10] at c8b1)
                    (try rw [hji10] at c8)
                    (try rw [hji10] at A3)
                    (try rw [hji10] at Ny136)
                    have hji10w : (IntKind.i64.wrap (t134 + t133)) = ji10 := (i64_w _).trans hji10
                    by_cases c11 : 0 ≤ (ji10)
                    · rw [if_pos c11] at H
                      have c11b0 := eq_true c11
                      have c11b1 : decide (0 ≤ (ji10)) = true := decide_eq_true c11
                      clear c11
                      have c12b0 := eq_true (of_decide_eq_true (by first | (with_reducible assumption) | assumption) : (ji10) ≤ (x0_1.size : Int))
                      have H' := Aside0.mk H
                      clear H
                      go_wp2_with (first | ((with_reducible refine gate_callee (f := 53) rfl ?_); refine goesL_ (some 12) rfl rfl Tryd.func53 (by kernel_rfl) rfl #[.string x0_1] rfl (by (try simp only [List.map_toArray, List.map_cons, List.map_nil]); first | done | rfl | (simp only [List.length_drop, List.length_take]; rfl)) ?_; (with_reducible refine (num_read.calls k1 x0_1 t133 t134 t135 _ A3.out).mono ?_); rintro e w' ⟨rfl, ⟨nd, rfl⟩⟩; refine ⟨_, rfl, ?_⟩) | ((with_reducible refine gate_builtin (b := .append) (xs := #[.tmp 27, .tmp 34]) rfl ?_); at_builtin; refine Kd.R_append Kd.string (w0 := w) w.heap.size rfl (.tmp 27) (.tmp 34) 23 9 (.string ⟨#[]⟩) 16 rfl Tryd.underlying23 info9 rfl (by decide) (by omega) u4 x4_1 (x0_1.extract (t134 : Int).toNat ((ji10) : Int).toNat) [.string (x0_1.extract (t134 : Int).toNat ((ji10) : Int).toNat)] (fun _ => True) (fun _ => False) rfl rfl ?aP (fun _ hk => hk.elim) ?aF ?aO ?aB ?aS ?aL ?_; (case aP => exact rfl); (case aB => exact (by repeat (first | (with_reducible first | exact HB.out | apply below_alloc | apply pw_below_drewN | apply below_drew1) | exact HB.out))); (case aF => exact (fun _ _ => trivial)); (case aO => exact (by (with_reducible repeat (first | apply Kd.R_alloc | apply Kd.R_drewN | apply Kd.R_drew)); exact HO_4.out)); (case aS => exact (below_size (by repeat (first | (with_reducible first | exact HB.out | apply below_alloc | apply pw_below_drewN | apply below_drew1) | exact HB.out)))); (case aL => have := LMc9.out; omega); intro v137 w13 ho hb hg hat; rw [← Ny136.out] at ho; have n0_ := Aside0.mk (hb); have n1_ := Aside0.mk (ho); clear HB; clear HO_4; have HB := n0_; have HO138 := n1_; clear n0_ n1_; clear ho hb hg hat))
                      go_roundg k1
                      case measure => have := HK1.out; omega
                      case rel => exact ⟨(x0_1.extract ((ji10) : Int).toNat x0_1.size), (y136), (by first | rfl | (simp; done) | (simp only [← hji10] <;> (first | rfl | simp)) | (simp [*]; done)), H', ⟨by have := HK1.out; omega⟩, ⟨by (with_reducible repeat (first | apply Kd.R_alloc | apply Kd.R_drewN | apply Kd.R_drew)); exact HO138.out⟩, ⟨by repeat (first | (with_reducible first | exact HB.out | apply below_alloc | apply pw_below_drewN | apply below_drew1) | exact HB.out)⟩⟩
                    · rw [if_neg c11] at H
                      exact absurd H (by simp)
                  · rw [if_neg c9] at H
                    exact absurd H (by simp)
                · rw [if_neg c8] at H
                  exact absurd H (by simp)
              · rw [if_neg c7] at H
                exact absurd H (by simp)
            · rw [if_neg c6] at H
              exact absurd H (by simp)
        · rw [if_neg c4] at H
          have c4b0 : (t135 == 0) = false := beq_eq_false_iff_ne.mpr c4
          have c4b1 : (t135 != 0) = true := bne_iff_ne.mpr c4
          simp only [Option.some.injEq, Prod.mk.injEq] at H
          obtain ⟨rfl, rfl⟩ := H
          go_wp2_with (first | ((with_reducible refine gate_callee (f := 53) rfl ?_); refine goesL_ (some 12) rfl rfl Tryd.func53 (by kernel_rfl) rfl #[.string x0_1] rfl (by (try simp only [List.map_toArray, List.map_cons, List.map_nil]); first | done | rfl | (simp only [List.length_drop, List.length_take]; rfl)) ?_; (with_reducible refine (num_read.calls k1 x0_1 t133 t134 t135 _ A3.out).mono ?_); rintro e w' ⟨rfl, ⟨nd, rfl⟩⟩; refine ⟨_, rfl, ?_⟩))
          go_ret2
          exact ⟨_, by first | rfl | (simp [errW_none, errW_some] <;> rfl) | (simp [*, errW_none, errW_some] <;> rfl), by first | exact Kd.R_nil _ _ _ _ _ | exact Kd.N_nil _ _ _ _ _ | exact Kd.V_nil _ _ _ _ _ | exact Kd.Q_nil _ _ _ _ _ | exact Kd.S_nil _ _ _ _ _, by repeat (first | (with_reducible first | exact HB.out | apply below_alloc | apply pw_below_drewN | apply below_drew1) | exact HB.out)⟩
end Go.Proofs.YtokcmaehojljdaaDoor.PGet

/- The reading of rows, as plain functions on lists of bytes. -/
namespace Go.Proofs.YtokcmaehojljdaaDoor
open Go.RowKit Go.Proofs.YtokcmaehojljdaaDoorW.PrintWords Go.Proofs.YtokcmaehojljdaaDoorW.PrintLast Go.Proofs.YtokcmaehojljdaaDoorW.PrintMore

/-- A length that bytes begin with: the number, how many bytes, the error. -/
def rl : List UInt8 → Nat → Nat → Nat × Nat × Nat
  | [], _, _ => (0, 0, 4)
  | c :: t, n, i => if (i = 3 ∧ 128 ≤ c.toNat) ∨ (0 < i ∧ c.toNat = 0) then (0, 0, 3) else if c.toNat < 128 then (n + c.toNat % 128 * 128 ^ i, i + 1, 0) else rl t (n + c.toNat % 128 * 128 ^ i) (i + 1)

theorem bt_list (s : ByteArray) (i : Nat) (c : UInt8) (t : List UInt8) (h : s.data.toList.drop i = c :: t) : bt s (i : Int) = c.toNat ∧ i < s.size := by
  have hl : i < s.data.toList.length := by
    rcases Nat.lt_or_ge i s.data.toList.length with h' | h'
    · exact h'
    · rw [List.drop_eq_nil_of_le h'] at h; cases h
  have hl' : i < s.size := by simpa using hl
  refine ⟨?_, hl'⟩
  have e : s.data.toList[i]? = some c := by
    have := congrArg List.head? h
    rw [List.head?_drop] at this
    exact this
  unfold bt
  rw [dif_pos (by simpa using hl')]
  have e2 : s.data.toList[i] = c := by rw [List.getElem?_eq_getElem hl] at e; exact Option.some.inj e
  simp only [Int.toNat_natCast]
  rw [← e2]
  rfl
theorem drop_next {α : Type} (l : List α) (i : Nat) (c : α) (t : List α) (h : l.drop i = c :: t) : l.drop (i + 1) = t := by
  rw [← List.drop_drop, h]; rfl

theorem rl_bad (c : UInt8) (t : List UInt8) (n i : Nat) (h : (i = 3 ∧ 128 ≤ c.toNat) ∨ (0 < i ∧ c.toNat = 0)) : rl (c :: t) n i = (0, 0, 3) := by rw [rl, if_pos h]
theorem rl_last (c : UInt8) (t : List UInt8) (n i : Nat) (h : ¬ ((i = 3 ∧ 128 ≤ c.toNat) ∨ (0 < i ∧ c.toNat = 0))) (hc : c.toNat < 128) : rl (c :: t) n i = (n + c.toNat % 128 * 128 ^ i, i + 1, 0) := by rw [rl, if_neg h, if_pos hc]
theorem rl_on (c : UInt8) (t : List UInt8) (n i : Nat) (h : ¬ ((i = 3 ∧ 128 ≤ c.toNat) ∨ (0 < i ∧ c.toNat = 0))) (hc : ¬ c.toNat < 128) : rl (c :: t) n i = rl t (n + c.toNat % 128 * 128 ^ i) (i + 1) := by rw [rl, if_neg h, if_neg hc]
theorem j2_bad (k : Nat) (s : ByteArray) (n i c z j : Int) : PGet.num_read.j2 (k + 1) s n i c z j true = some (((0 : Nat) : Int), ((0 : Nat) : Int), ((3 : Nat) : Int)) := by
  rw [PGet.num_read.j2, if_pos rfl]; rfl
theorem j2_last (k : Nat) (s : ByteArray) (n i c z j : Int) (h : 0 ≤ wrap64 (7 * i)) (hc : c < 128) : PGet.num_read.j2 (k + 1) s n i c z j false = some (wrap64 (n + shl .i64 (Int.tmod c 128) (wrap64 (7 * i))), wrap64 (i + 1), 0) := by
  rw [PGet.num_read.j2, if_neg (by decide), if_pos h, if_pos hc]
theorem j2_on (k : Nat) (s : ByteArray) (n i c z j : Int) (h : 0 ≤ wrap64 (7 * i)) (hc : ¬ c < 128) : PGet.num_read.j2 (k + 1) s n i c z j false = PGet.num_read.l0 k s (wrap64 (n + shl .i64 (Int.tmod c 128) (wrap64 (7 * i)))) z (wrap64 (j + 1)) := by
  rw [PGet.num_read.j2, if_neg (by decide), if_pos h, if_neg hc]
theorem pow_len (i : Nat) (hi3 : i ≤ 3) : (128 : Nat) ^ i ≤ 2097152 := by
  have : (128 : Nat) ^ i ≤ 128 ^ 3 := Nat.pow_le_pow_right (by decide) hi3
  simpa using this
theorem mul_len (c p : Nat) (hc : c < 128) : c * p ≤ 127 * p := Nat.mul_le_mul_right _ (by omega)
theorem shl_len (c : UInt8) (i : Nat) (hi3 : i ≤ 3) (hc : c.toNat % 128 < 128) : shl .i64 (Int.tmod (c.toNat : Int) 128) ((7 * i : Nat) : Int) = ((c.toNat % 128 * 128 ^ i : Nat) : Int) := by
  unfold shl
  have e1 : min ((7 * i : Nat) : Int).toNat IntKind.i64.bits = 7 * i := by
    rw [Int.toNat_natCast]; exact Nat.min_eq_left (by show 7 * i ≤ 64; omega)
  have e0 : (Int.tmod (c.toNat : Int) 128) = ((c.toNat % 128 : Nat) : Int) := by rw [Int.tmod_eq_emod_of_nonneg (by omega)]; rfl
  rw [e1, e0]
  have e2 : (((c.toNat % 128 : Nat) : Int) * 2 ^ (7 * i)) = ((c.toNat % 128 * 128 ^ i : Nat) : Int) := by
    rw [Int.natCast_mul, Int.natCast_pow, Int.pow_mul]
    rfl
  rw [e2]
  have h1 := mul_len (c.toNat % 128) (128 ^ i) hc
  have h2 := pow_len i hi3
  generalize c.toNat % 128 * 128 ^ i = x at *
  generalize (128 : Nat) ^ i = p at *
  exact IntWalk.i64_in _ (by omega)
theorem sum_len (n i : Nat) (c : UInt8) (hi3 : i ≤ 3) (hn : n < 128 ^ i) : wrap64 ((n : Int) + ((c.toNat % 128 * 128 ^ i : Nat) : Int)) = ((n + c.toNat % 128 * 128 ^ i : Nat) : Int) := by
  have h1 := mul_len (c.toNat % 128) (128 ^ i) (Nat.mod_lt _ (by decide))
  have h2 := pow_len i hi3
  generalize c.toNat % 128 * 128 ^ i = x at *
  generalize (128 : Nat) ^ i = p at *
  unfold wrap64
  omega
theorem next_len (n i : Nat) (c : UInt8) (hn : n < 128 ^ i) : n + c.toNat % 128 * 128 ^ i < 128 ^ (i + 1) := by
  have h1 := mul_len (c.toNat % 128) (128 ^ i) (Nat.mod_lt _ (by decide))
  rw [Nat.pow_succ]
  generalize c.toNat % 128 * 128 ^ i = x at *
  generalize (128 : Nat) ^ i = p at *
  omega
theorem l0_end (k : Nat) (s : ByteArray) (n z j : Int) (h : ¬ j < z) : PGet.num_read.l0 (k + 1) s n z j = some (((0 : Nat) : Int), ((0 : Nat) : Int), ((4 : Nat) : Int)) := by
  rw [PGet.num_read.l0, if_neg h]; rfl
theorem read_pure (s : ByteArray) (hs : s.size ≤ 9223372036854775807) (d : Nat) : ∀ (i n k : Nat), d + i = 4 → 0 < d → i ≤ s.size → 3 * d < k → Aside0 (n < 128 ^ i) →
    PGet.num_read.l0 k s n (s.size : Int) i = some ((((rl (s.data.toList.drop i) n i).1 : Nat) : Int), (((rl (s.data.toList.drop i) n i).2.1 : Nat) : Int), (((rl (s.data.toList.drop i) n i).2.2 : Nat) : Int)) := by
  induction d with
  | zero => exact fun _ _ _ _ h0 => absurd h0 (by decide)
  | succ d ih =>
    intro i n k hd _ hi hk hn
    obtain ⟨k, rfl⟩ : ∃ m, k = m + 3 := ⟨k - 3, by omega⟩
    have hs0 := Aside0.mk hs
    cases hL : s.data.toList.drop i with
    | nil =>
      have hge : s.size ≤ i := by
        have := List.drop_eq_nil_iff.1 hL
        simpa using this
      exact l0_end (k + 2) s n s.size i (by omega)
    | cons c t =>
      obtain ⟨hb, hlt⟩ := bt_list s i c t hL
      have hc := c.toNat_lt
      have hi3 : i ≤ 3 := by omega
      have hw : wrap64 (c.toNat : Int) = c.toNat := by unfold wrap64; omega
      have hw7 : wrap64 (7 * (i : Int)) = ((7 * i : Nat) : Int) := by unfold wrap64; omega
      have hi1 : wrap64 ((i : Int) + 1) = ((i + 1 : Nat) : Int) := by unfold wrap64; omega
      have g7 : 0 ≤ wrap64 (7 * (i : Int)) := by rw [hw7]; exact Int.natCast_nonneg _
      have q1 : (i : Int) < s.size := by omega
      have q2 : ((i : Int) = 3) ↔ i = 3 := by omega
      have q3 : ((i : Int) > 0) ↔ 0 < i := by omega
      have q4 : ((c.toNat : Int) ≥ 128) ↔ 128 ≤ c.toNat := by omega
      have q5 : ((c.toNat : Int) = 0) ↔ c.toNat = 0 := by omega
      have q6 : ((c.toNat : Int) < 128) ↔ c.toNat < 128 := by omega
      have hd1 : d = 0 → i = 3 := by omega
      have hd2 : d + (i + 1) = 4 := by omega
      have hd3 : i + 1 ≤ s.size := by omega
      have hd4 : 3 * d < k := by omega
      clear hs hk hi hd hlt
      have hsh := shl_len c i hi3 (Nat.mod_lt _ (by decide))
      have hsum := sum_len n i c hi3 hn.out
      have hnext := next_len n i c hn.out
      have hj2 : ∀ x16 : Bool, (x16 = true ↔ ((i = 3 ∧ 128 ≤ c.toNat) ∨ (0 < i ∧ c.toNat = 0))) →
          PGet.num_read.j2 (k + 1) s n i c.toNat (s.size : Int) i x16 = some ((((rl (c :: t) n i).1 : Nat) : Int), (((rl (c :: t) n i).2.1 : Nat) : Int), (((rl (c :: t) n i).2.2 : Nat) : Int)) := by
        intro x16 hx
        by_cases hbad : (i = 3 ∧ 128 ≤ c.toNat) ∨ (0 < i ∧ c.toNat = 0)
        · rw [rl_bad c t n i hbad, hx.2 hbad]
          exact j2_bad k s n i c.toNat s.size i
        · have hx' : x16 = false := by cases x16 with
            | true => exact absurd (hx.1 rfl) hbad
            | false => rfl
          rw [hx']
          by_cases hlast : c.toNat < 128
          · rw [rl_last c t n i hbad hlast, j2_last k s n i c.toNat s.size i g7 (q6.2 hlast), hw7, hsh, hsum, hi1]
            simp only [Int.natCast_zero]
          · rw [rl_on c t n i hbad hlast, j2_on k s n i c.toNat s.size i g7 (fun e => hlast (q6.1 e)), hw7, hsh, hsum, hi1, ← drop_next _ _ _ _ hL]
            by_cases hd0 : d = 0
            · exact absurd (Or.inl ⟨hd1 hd0, Nat.not_lt.1 hlast⟩) hbad
            · exact ih (i + 1) _ k hd2 (Nat.pos_of_ne_zero hd0) hd3 hd4 ⟨hnext⟩
      clear hsh hsum hnext hn
      rw [PGet.num_read.l0, if_pos q1, if_pos (Int.natCast_nonneg _), if_pos q1, hb, hw]
      by_cases h3 : i = 3
      · rw [if_pos (q2.2 h3), PGet.num_read.j1]
        by_cases h128 : 128 ≤ c.toNat
        · rw [if_pos (decide_eq_true (q4.2 h128)), decide_eq_true (q4.2 h128)]
          exact hj2 true ⟨fun _ => .inl ⟨h3, h128⟩, fun _ => rfl⟩
        · rw [decide_eq_false (fun e => h128 (q4.1 e)), if_neg (by decide), if_pos (q3.2 (by omega))]
          exact hj2 _ ⟨fun e => .inr ⟨by omega, q5.1 (beq_iff_eq.1 e)⟩, fun e => beq_iff_eq.2 (q5.2 (by omega))⟩
      · rw [if_neg (fun e => h3 (q2.1 e)), PGet.num_read.j1, if_neg (by decide)]
        by_cases h0 : 0 < i
        · rw [if_pos (q3.2 h0)]
          exact hj2 _ ⟨fun e => .inr ⟨h0, q5.1 (beq_iff_eq.1 e)⟩, fun e => beq_iff_eq.2 (q5.2 (by omega))⟩
        · rw [if_neg (fun e => h0 (q3.1 e))]
          exact hj2 false ⟨fun e => absurd e (by decide), fun e => absurd e (by omega)⟩
/-- A length is read as it was written. -/
theorem rl_lenU (d : Nat) : ∀ (m n i : Nat) (R : List UInt8), m < 128 ^ (d + 1) → i + d ≤ 3 → (0 < i → 0 < m) → rl (lenU m ++ R) n i = (n + m * 128 ^ i, i + (lenU m).length, 0) := by
  induction d with
  | zero =>
    intro m n i R hm hi h0
    have hm' : m < 128 := by simpa using hm
    have e : (UInt8.ofNat m).toNat = m := by simp; omega
    rw [lenU, if_pos hm', List.singleton_append, rl_last _ _ _ _ (by rw [e]; omega) (by rw [e]; exact hm'), e, Nat.mod_eq_of_lt hm']
    rfl
  | succ d ih =>
    intro m n i R hm hi h0
    by_cases hm' : m < 128
    · have e : (UInt8.ofNat m).toNat = m := by simp; omega
      rw [lenU, if_pos hm', List.singleton_append, rl_last _ _ _ _ (by rw [e]; omega) (by rw [e]; exact hm'), e, Nat.mod_eq_of_lt hm']
      rfl
    · have e : (UInt8.ofNat (m % 128 + 128)).toNat = m % 128 + 128 := by simp; omega
      have hdv : m / 128 < 128 ^ (d + 1) := by
        rw [Nat.pow_succ] at hm
        exact Nat.div_lt_of_lt_mul (by rw [Nat.mul_comm]; exact hm)
      have e2 : (m % 128 + 128) % 128 = m % 128 := by omega
      rw [lenU, if_neg hm', List.cons_append, rl_on _ _ _ _ (by rw [e]; omega) (by rw [e]; omega), e, e2, ih (m / 128) _ (i + 1) R hdv (by omega) (by omega)]
      have e3 : n + m % 128 * 128 ^ i + m / 128 * 128 ^ (i + 1) = n + m * 128 ^ i := by
        rw [Nat.pow_succ]
        have : m * 128 ^ i = (m % 128 + m / 128 * 128) * 128 ^ i := by rw [Nat.mul_comm (m / 128), Nat.mod_add_div]
        rw [this, Nat.add_mul, Nat.mul_assoc, Nat.mul_comm 128 (128 ^ i)]
        omega
      rw [e3, List.length_cons]
      congr 2
      omega
/-- What is read off is a length as it is written, and the bytes behind it stay. -/
theorem rl_back : ∀ (L : List UInt8) (n i : Nat) (r sz : Nat), i ≤ 3 → rl L n i = (r, sz, 0) → ∃ m R, L = lenU m ++ R ∧ r = n + m * 128 ^ i ∧ sz = i + (lenU m).length ∧ (0 < i → 0 < m) ∧ m < 128 ^ (4 - i)
  | [], n, i, r, sz, _, h => by rw [rl] at h; simp at h
  | c :: t, n, i, r, sz, hi, h => by
    have hc := c.toNat_lt
    by_cases hbad : (i = 3 ∧ 128 ≤ c.toNat) ∨ (0 < i ∧ c.toNat = 0)
    · rw [rl_bad _ _ _ _ hbad] at h; simp at h
    by_cases hl : c.toNat < 128
    · rw [rl_last _ _ _ _ hbad hl, Nat.mod_eq_of_lt hl] at h
      simp only [Prod.mk.injEq, and_true] at h
      refine ⟨c.toNat, t, ?_, h.1.symm, ?_, by omega, ?_⟩
      · rw [lenU, if_pos hl]; simp
      · rw [lenU, if_pos hl]; simp; exact h.2.symm
      · exact Nat.lt_of_lt_of_le hl (by have := Nat.pow_le_pow_right (show 0 < 128 by decide) (show 1 ≤ 4 - i by omega); simpa using this)
    · rw [rl_on _ _ _ _ hbad hl] at h
      have hi3 : i + 1 ≤ 3 := by omega
      obtain ⟨m, R, rfl, hr, hs, h0, hm⟩ := rl_back t _ _ r sz hi3 h
      have hm0 := h0 (by omega)
      have e1 : (c.toNat % 128 + m * 128) / 128 = m := by omega
      have e2 : (c.toNat % 128 + m * 128) % 128 + 128 = c.toNat := by omega
      have e3 : lenU (c.toNat % 128 + m * 128) = c :: lenU m := by
        rw [lenU, if_neg (by omega), e1, e2]; simp
      refine ⟨c.toNat % 128 + m * 128, R, by rw [e3]; rfl, ?_, by rw [e3, hs, List.length_cons]; omega, by omega, ?_⟩
      · rw [hr, Nat.pow_succ, Nat.add_mul, Nat.mul_assoc, Nat.mul_comm 128 (128 ^ i), Nat.add_assoc]
      · have e4 : 128 ^ (4 - i) = 128 ^ (4 - (i + 1)) * 128 := by rw [← Nat.pow_succ]; congr 1; omega
        rw [e4]
        generalize 128 ^ (4 - (i + 1)) = q at *
        omega
/-- The texts of bytes. -/
def tl : Nat → List UInt8 → List ByteArray → List ByteArray × Nat
  | 0, _, _ => ([], 0)
  | _ + 1, [], acc => (acc, 0)
  | k + 1, c :: t, acc =>
    if (rl (c :: t) 0 0).2.2 ≠ 0 then ([], (rl (c :: t) 0 0).2.2)
    else if (c :: t).length - (rl (c :: t) 0 0).2.1 < (rl (c :: t) 0 0).1 then ([], 4)
    else tl k ((c :: t).drop ((rl (c :: t) 0 0).2.1 + (rl (c :: t) 0 0).1)) (acc ++ [⟨(((c :: t).drop (rl (c :: t) 0 0).2.1).take (rl (c :: t) 0 0).1).toArray⟩])
/-- What is written is read. -/
theorem tl_row (l : List ByteArray) : ∀ (k : Nat) (acc : List ByteArray) (R : List UInt8), l.length < k → (∀ s ∈ l, s.size < 268435456) → tl k (rowU l ++ R) acc = tl (k - l.length) R (acc ++ l) := by
  induction l with
  | nil => intro k acc R _ _; simp [rowU]
  | cons s l ih =>
    intro k acc R hk hs
    obtain ⟨k, rfl⟩ : ∃ m, k = m + 1 := ⟨k - 1, by simp at hk; omega⟩
    have hsz := hs s (by simp)
    have e : rowU (s :: l) ++ R = lenU s.size ++ (s.data.toList ++ (rowU l ++ R)) := by simp [rowU]
    have hr := rl_lenU 3 s.size 0 0 (s.data.toList ++ (rowU l ++ R)) (by simpa using hsz) (by omega) (by omega)
    simp only [Nat.pow_zero, Nat.mul_one, Nat.zero_add] at hr
    rw [e]
    cases hL : lenU s.size ++ (s.data.toList ++ (rowU l ++ R)) with
    | nil => exact absurd (congrArg List.length hL) (by have := lenU_pos s.size; rw [List.length_append, List.length_nil]; omega)
    | cons c t =>
      rw [tl, ← hL, hr]
      have hdl : s.data.toList.length = s.size := by simp
      rw [if_neg (by simp), if_neg (by rw [List.length_append, List.length_append, hdl]; simp only []; omega)]
      have e1 : (lenU s.size ++ (s.data.toList ++ (rowU l ++ R))).drop ((lenU s.size).length) = s.data.toList ++ (rowU l ++ R) := by simp
      have e2 : (lenU s.size ++ (s.data.toList ++ (rowU l ++ R))).drop ((lenU s.size).length + s.size) = rowU l ++ R := by
        rw [← List.drop_drop, e1, ← hdl, List.drop_left]
      have e3 : ((s.data.toList ++ (rowU l ++ R)).take s.size) = s.data.toList := by rw [← hdl, List.take_left]
      simp only []
      rw [e1, e2, e3, ih k _ R (by simp at hk; omega) (fun x hx => hs x (by simp [hx]))]
      simp
/-- What is read is written as it was. -/
theorem tl_back : ∀ (k : Nat) (L : List UInt8) (acc r : List ByteArray), L.length < k → tl k L acc = (r, 0) → rowU r = rowU acc ++ L
  | 0, _, _, _, h, _ => absurd h (Nat.not_lt_zero _)
  | k + 1, [], acc, r, _, h => by
    rw [tl] at h
    simp only [Prod.mk.injEq, and_true] at h
    rw [h]; simp
  | k + 1, c :: t, acc, r, hk, h => by
    rw [tl] at h
    by_cases h1 : (rl (c :: t) 0 0).2.2 ≠ 0
    · rw [if_pos h1] at h
      exact absurd (congrArg Prod.snd h) h1
    rw [if_neg h1] at h
    by_cases h2 : (c :: t).length - (rl (c :: t) 0 0).2.1 < (rl (c :: t) 0 0).1
    · rw [if_pos h2] at h
      exact absurd (show (4 : Nat) = 0 from congrArg Prod.snd h) (by decide)
    rw [if_neg h2] at h
    have h1' : (rl (c :: t) 0 0).2.2 = 0 := by omega
    obtain ⟨m, R, hL, hm, hsz, _, _⟩ := rl_back (c :: t) 0 0 (rl (c :: t) 0 0).1 (rl (c :: t) 0 0).2.1 (by omega) (Prod.ext rfl (Prod.ext rfl h1'))
    simp only [Nat.pow_zero, Nat.mul_one, Nat.zero_add] at hm hsz
    rw [hm, hsz] at h h2
    rw [hL] at h h2 hk ⊢
    have hp := lenU_pos m
    rw [List.length_append] at h2 hk
    have e1 : (lenU m ++ R).drop (lenU m).length = R := List.drop_left
    rw [← List.drop_drop, e1] at h
    have ih := tl_back k (R.drop m) _ r (by rw [List.length_drop]; omega) h
    rw [ih]
    have hlen : (R.take m).length = m := by rw [List.length_take]; omega
    have e2 : rowU (acc ++ [⟨(R.take m).toArray⟩]) = rowU acc ++ (lenU m ++ R.take m) := by
      have : (⟨(R.take m).toArray⟩ : ByteArray).size = m := by show (R.take m).toArray.size = m; simpa using hlen
      simp only [rowU, List.flatMap_append, List.flatMap_cons, List.flatMap_nil, List.append_nil, this]
    rw [e2, List.append_assoc, List.append_assoc, List.take_append_drop]
theorem rl_size : ∀ (L : List UInt8) (n i : Nat), i ≤ 3 → n < 128 ^ i → (rl L n i).1 < 268435456 ∧ (rl L n i).2.1 ≤ 4 ∧ ((rl L n i).2.2 = 0 → (rl L n i).2.1 ≤ i + L.length)
  | [], n, i, _, _ => by rw [rl]; simp
  | c :: t, n, i, hi, hn => by
    by_cases hbad : (i = 3 ∧ 128 ≤ c.toNat) ∨ (0 < i ∧ c.toNat = 0)
    · rw [rl_bad _ _ _ _ hbad]; simp
    have hx := next_len n i c hn
    have hp : (128 : Nat) ^ (i + 1) ≤ 268435456 := by
      have : (128 : Nat) ^ (i + 1) ≤ 128 ^ 4 := Nat.pow_le_pow_right (by decide) (by omega)
      simpa using this
    by_cases hl : c.toNat < 128
    · rw [rl_last _ _ _ _ hbad hl]
      refine ⟨Nat.lt_of_lt_of_le hx hp, by simp; omega, fun _ => by simp⟩
    · rw [rl_on _ _ _ _ hbad hl]
      have h := rl_size t _ (i + 1) (by omega) hx
      refine ⟨h.1, h.2.1, fun e => ?_⟩
      have := h.2.2 e
      rw [List.length_cons]; omega
theorem extract_list (s : ByteArray) (a b : Nat) : (s.extract a b).data.toList = (s.data.toList.drop a).take (b - a) := by
  rw [ByteArray.data_extract]
  simp only [Array.toList_extract, List.extract_eq_take_drop]
theorem byteArray_eq (s : ByteArray) (L : List UInt8) (h : s.data.toList = L) : s = ⟨L.toArray⟩ := by
  apply ByteArray.ext
  rw [← h]
theorem toList_nil (s : ByteArray) : s.toList = [] ↔ s.data.toList = [] := by
  have e : s.toList = s.data.toList := ByteArray.toList_eq s
  rw [e]
theorem read_f (s : ByteArray) (hs : s.size ≤ 9223372036854775807) (k : Nat) (hk : 12 < k) : PGet.num_read.f k s = some ((((rl s.data.toList 0 0).1 : Nat) : Int), (((rl s.data.toList 0 0).2.1 : Nat) : Int), (((rl s.data.toList 0 0).2.2 : Nat) : Int)) := by
  have h := read_pure s hs 4 0 0 k rfl (by decide) (Nat.zero_le _) (by omega) ⟨by decide⟩
  rw [List.drop_zero] at h
  exact h
theorem texts_pure : ∀ (d k : Nat) (s : ByteArray) (acc : List ByteArray), s.size < d → d + 13 ≤ k → s.size ≤ 140737488351232 → acc.length + s.size < 8796093022208 →
    PGet.num_Texts.l0 k s acc = some ((tl d s.data.toList acc).1, (((tl d s.data.toList acc).2 : Nat) : Int))
  | 0, _, _, _, h, _, _, _ => absurd h (Nat.not_lt_zero _)
  | d + 1, k, s, acc, hd, hk, hs, ha => by
    obtain ⟨k, rfl⟩ : ∃ m, k = m + 1 := ⟨k - 1, by omega⟩
    rw [PGet.num_Texts.l0]
    cases hL : s.data.toList with
    | nil => rw [if_pos ((toList_nil s).2 hL), tl]; rfl
    | cons c t =>
      have hne : ¬ s.toList = [] := fun e => by rw [toList_nil, hL] at e; cases e
      have hsz : s.size = (c :: t).length := by rw [← hL]; simp
      rw [if_neg hne, read_f s (by omega) k (by omega), hL]
      simp only [Option.bind_some]
      have hr := rl_size (c :: t) 0 0 (by omega) (by decide)
      have hb : ∀ r sz, rl (c :: t) 0 0 = (r, sz, 0) → 0 < sz := fun r sz e => by
        obtain ⟨m, R, _, _, h3, _⟩ := rl_back (c :: t) 0 0 r sz (by omega) e
        have := lenU_pos m
        omega
      rw [tl]
      obtain ⟨r, hr1⟩ : ∃ r, r = (rl (c :: t) 0 0).1 := ⟨_, rfl⟩
      obtain ⟨sz, hr2⟩ : ∃ sz, sz = (rl (c :: t) 0 0).2.1 := ⟨_, rfl⟩
      obtain ⟨e, hr3⟩ : ∃ e, e = (rl (c :: t) 0 0).2.2 := ⟨_, rfl⟩
      have hb' : e = 0 → 0 < sz := fun h0 => hb r sz (Prod.ext hr1.symm (Prod.ext hr2.symm (hr3.symm.trans h0)))
      rw [← hr1, ← hr2, ← hr3] at hr ⊢
      clear hb hr1 hr2 hr3
      by_cases h0 : e = 0
      · subst h0
        have h3 := hr.2.2 rfl
        have h4 := hb' rfl
        have w1 : wrap64 ((s.size : Int) - (sz : Int)) = ((s.size - sz : Nat) : Int) := by unfold wrap64; omega
        have w2 : wrap64 ((sz : Int) + (r : Int)) = ((sz + r : Nat) : Int) := by unfold wrap64; omega
        have nz : ¬ ((0 : Nat) ≠ 0) := by decide
        rw [if_pos (by rfl), w1, w2, if_neg nz]
        by_cases hlt : (c :: t).length - sz < r
        · rw [if_pos (by omega), if_pos hlt]; rfl
        · rw [if_neg (by omega), if_neg hlt, if_pos (by omega), if_pos (by omega), if_pos (by omega), if_pos (by omega), if_pos (by omega)]
          have x1 : (s.extract (sz + r) s.size).data.toList = (c :: t).drop (sz + r) := by
            rw [extract_list, hL, List.take_of_length_le (by rw [List.length_drop]; omega)]
          have x2 : s.extract sz (sz + r) = ⟨(((c :: t).drop sz).take r).toArray⟩ := byteArray_eq _ _ (by rw [extract_list, hL]; congr 1; omega)
          simp only [Int.toNat_natCast]
          rw [texts_pure d k (s.extract (sz + r) s.size) _ (by simp; omega) (by omega) (by simp; omega) (by simp; omega), x1, x2]
      · rw [if_neg (by omega), if_pos h0]
end Go.Proofs.YtokcmaehojljdaaDoor

/- The reference's Machine: what it computes. -/
namespace Go.Proofs.YtokcmaehojljdaaDoor
open Go.RowKit Go.Lib Go.Shelf Go.Proofs.YtokcmaehojljdaaDoorW.PrintWords Go.Proofs.YtokcmaehojljdaaDoorW.PrintLast Go.Proofs.YtokcmaehojljdaaDoorW.PrintMore

theorem other_iff (c : Nat) : otherB c = true ↔ ((c : Int) < 97 ∨ (c : Int) > 122) ∧ ((c : Int) < 48 ∨ (c : Int) > 57) ∧ (c : Int) ≠ 46 ∧ (c : Int) ≠ 45 := by
  unfold otherB
  simp only [Bool.and_eq_true, Bool.or_eq_true, decide_eq_true_eq, bne_iff_ne, and_assoc]
theorem other_high (c : Nat) (h : 128 ≤ c) : otherB c = true := (other_iff c).2 ⟨by omega, by omega, by omega, by omega⟩
def oth (c : UInt8) : Bool := otherB c.toNat
theorem idx_any (s : ByteArray) : ∀ f pos, s.size ≤ f + pos → decide (0 ≤ idxFuncFrom otherB true s f pos) = (s.data.toList.drop pos).any oth
  | 0, pos, h => by
    rw [List.drop_eq_nil_of_le (by simp; omega)]
    rfl
  | f + 1, pos, h => by
    unfold idxFuncFrom
    by_cases hlt : pos < s.size
    · rw [if_pos hlt]
      have hl : pos < s.data.toList.length := by simpa using hlt
      have hc : s.data.toList[pos] = s[pos]'hlt := rfl
      rw [List.drop_eq_getElem_cons hl, List.any_cons, hc]
      by_cases ha : (s[pos]'hlt).toNat < 128
      · rw [decode_ascii s pos hlt ha]
        simp only []
        by_cases ho : otherB (s[pos]'hlt).toNat = true
        · rw [if_pos ho]
          have : oth (s[pos]'hlt) = true := ho
          rw [this, Bool.true_or]
          exact decide_eq_true (Int.natCast_nonneg _)
        · rw [if_neg ho, idx_any s f (pos + 1) (by omega)]
          have : oth (s[pos]'hlt) = false := by simpa [oth] using ho
          rw [this, Bool.false_or]
      · have hh := decode_high s pos hlt (by omega)
        rw [if_pos (other_high _ hh.1)]
        have : oth (s[pos]'hlt) = true := other_high _ (by omega)
        rw [this, Bool.true_or]
        exact decide_eq_true (Int.natCast_nonneg _)
    · rw [if_neg hlt, List.drop_eq_nil_of_le (by simp; omega)]
      rfl
theorem machine_bytes (s : ByteArray) : machineB s = if s.data.toList.any oth = true then false else decide (1 ≤ s.size ∧ s.size ≤ 24) := by
  unfold machineB
  have h := idx_any s s.size 0 (by omega)
  rw [List.drop_zero] at h
  have h' : decide (0 ≤ idxFunc otherB true s) = s.data.toList.any oth := h
  rw [h']
  have e : (s.toList != []) = decide (1 ≤ s.size) := by
    rw [ByteArray.toList_eq]
    by_cases hz : s.size = 0
    · have : s.data.toList = [] := List.eq_nil_of_length_eq_zero (by simpa using hz)
      rw [this, decide_eq_false (by omega)]; rfl
    · have : s.data.toList ≠ [] := fun e => hz (by have := congrArg List.length e; simpa using this)
      rw [bne_iff_ne.2 this, decide_eq_true (by omega)]
  rw [e]
  cases s.data.toList.any oth with
  | true => simp
  | false => simp
theorem mach_step (k : Nat) (s : ByteArray) (i c : Nat) (hi : i < s.size) (hb : bt s (i : Int) = c) : PGet.hibernacleref41_Machine.l0 (k + 1) s i = if otherB c = true then some false else PGet.hibernacleref41_Machine.l0 k s (wrap64 ((i : Int) + 1)) := by
  rw [PGet.hibernacleref41_Machine.l0, if_pos (by omega), if_pos (Int.natCast_nonneg _), hb]
  have ho := other_iff c
  generalize PGet.hibernacleref41_Machine.l0 k s (wrap64 ((i : Int) + 1)) = X
  by_cases h : otherB c = true
  · rw [if_pos h]
    have h' := ho.1 h
    repeat' split
    all_goals first | rfl | (exfalso; omega)
  · rw [if_neg h]
    have h' : ¬ (((c : Int) < 97 ∨ (c : Int) > 122) ∧ ((c : Int) < 48 ∨ (c : Int) > 57) ∧ (c : Int) ≠ 46 ∧ (c : Int) ≠ 45) := fun e => h (ho.2 e)
    repeat' split
    all_goals first | rfl | (exfalso; omega)
theorem mach_loop (s : ByteArray) (hs : s.size ≤ 140737488351232) (d : Nat) : ∀ i k, i + d = s.size → d < k → PGet.hibernacleref41_Machine.l0 k s i = some (if (s.data.toList.drop i).any oth = true then false else decide (1 ≤ s.size ∧ s.size ≤ 24)) := by
  induction d with
  | zero =>
    intro i k hi hk
    obtain ⟨k, rfl⟩ : ∃ m, k = m + 1 := ⟨k - 1, by omega⟩
    have e0 : s.data.toList.drop i = [] := List.drop_eq_nil_of_le (by simp; omega)
    rw [PGet.hibernacleref41_Machine.l0, if_neg (show ¬ ((i : Int) < (s.size : Int)) by omega), e0, if_neg (show ¬ (([] : List UInt8).any oth = true) by simp)]
    by_cases h1 : 1 ≤ s.size
    · rw [if_pos (show (s.size : Int) ≥ 1 by omega)]
      congr 1
      simp only [decide_eq_decide]
      omega
    · rw [if_neg (show ¬ (s.size : Int) ≥ 1 by omega), decide_eq_false (show ¬ (1 ≤ s.size ∧ s.size ≤ 24) by omega)]
  | succ d ih =>
    intro i k hi hk
    obtain ⟨k, rfl⟩ : ∃ m, k = m + 1 := ⟨k - 1, by omega⟩
    have hlt : i < s.size := by omega
    have hl : i < s.data.toList.length := by simpa using hlt
    have hd := List.drop_eq_getElem_cons hl
    obtain ⟨hb, -⟩ := bt_list s i _ _ hd
    have w1 : wrap64 ((i : Int) + 1) = ((i + 1 : Nat) : Int) := wrap_nat _ _ rfl (by omega)
    rw [mach_step k s i _ hlt hb, hd, List.any_cons]
    have ho : oth s.data.toList[i] = otherB (s.data.toList[i]).toNat := rfl
    rw [ho]
    cases otherB (s.data.toList[i]).toNat with
    | true => rw [if_pos rfl, Bool.true_or, if_pos rfl]
    | false => rw [if_neg (by decide), Bool.false_or, w1]; exact ih (i + 1) k (by omega) (by omega)
theorem rmach_any (s : ByteArray) (hs : s.size ≤ 140737488351232) (w : World) : Calls Tryd.prog 51 #[.string s] w fun e w' => e = .returned (.bool (machineB s)) ∧ Drawn0 w w' := by
  refine PGet.hibernacleref41_Machine.calls (s.size + 1) s _ w ?_
  have h := mach_loop s hs s.size 0 (s.size + 1) (by omega) (by omega)
  rw [List.drop_zero] at h
  rw [machine_bytes]
  exact h
end Go.Proofs.YtokcmaehojljdaaDoor

/- The reference's Check of a snapshot: its walk. -/
namespace Go.Proofs.YtokcmaehojljdaaDoor
open Go.RowKit Go.Shelf Go.Proofs.YtokcmaehojljdaaDoorW.PrintWords Go.Proofs.YtokcmaehojljdaaDoorW.PrintLast Go.Proofs.YtokcmaehojljdaaDoorW.PrintMore

theorem range_iff (s : Sn) : rangeB s = true ↔ 1 ≤ s.n ∧ s.n ≤ 100000000 ∧ 0 ≤ s.at_ ∧ s.at_ ≤ 1000000000000 ∧ 1 ≤ s.pages ∧ s.pages ≤ 64 ∧ 1 ≤ s.blocks ∧ s.blocks ≤ 256 := by
  unfold rangeB inB
  simp only [Bool.and_eq_true, decide_eq_true_eq, and_assoc]
theorem range_yes (s : Sn) (h : 1 ≤ s.n ∧ s.n ≤ 100000000 ∧ 0 ≤ s.at_ ∧ s.at_ ≤ 1000000000000 ∧ 1 ≤ s.pages ∧ s.pages ≤ 64 ∧ 1 ≤ s.blocks ∧ s.blocks ≤ 256) : rangeB s = true := (range_iff s).2 h
theorem range_no (s : Sn) (h : ¬ (1 ≤ s.n ∧ s.n ≤ 100000000 ∧ 0 ≤ s.at_ ∧ s.at_ ≤ 1000000000000 ∧ 1 ≤ s.pages ∧ s.pages ≤ 64 ∧ 1 ≤ s.blocks ∧ s.blocks ≤ 256)) : rangeB s = false := by
  rw [← Bool.not_eq_true]
  exact fun e => h ((range_iff s).1 e)
theorem anyBad_at (l : List ByteArray) (j : Nat) (x : ByteArray) (h : l[j]? = some x) (hx : ofOk x = false) : anyBad l = true := by
  unfold anyBad
  rw [List.any_eq_true]
  exact ⟨x, List.mem_of_getElem? h, by rw [hx]; rfl⟩
theorem anyBad_no (l : List ByteArray) (h : ∀ (j : Nat) (x : ByteArray), l[j]? = some x → ofOk x = true) : anyBad l = false := by
  unfold anyBad
  rw [List.any_eq_false]
  intro x hx
  obtain ⟨j, hj⟩ := List.getElem?_of_mem hx
  rw [h j x hj]
  decide
theorem badS_at (s : Sn) (i : Nat) (hi : i < 3) (h : anyBad (lst s i) = true) : badS s = true := by
  have hc : i = 0 ∨ i = 1 ∨ i = 2 := by omega
  unfold badS
  rcases hc with rfl | rfl | rfl
  · have h : anyBad s.l0 = true := h
    rw [h]; simp
  · have h : anyBad s.l1 = true := h
    rw [h]; simp
  · have h : anyBad s.l2 = true := h
    rw [h]; simp
theorem badS_no (s : Sn) (h : ∀ i, i < 3 → anyBad (lst s i) = false) : badS s = false := by
  have h0 : anyBad s.l0 = false := h 0 (by omega)
  have h1 : anyBad s.l1 = false := h 1 (by omega)
  have h2 : anyBad s.l2 = false := h 2 (by omega)
  unfold badS
  rw [h0, h1, h2]; rfl
set_option maxHeartbeats 4000000 in
set_option maxRecDepth 100000 in
theorem rcheck_any (s : Sn) (v0 v1 v2 : Value) (w : World) (h : SnOk w s v0 v1 v2) :
    Calls Tryd.prog 28 #[.agg (snL s v0 v1 v2).toArray] w fun e w' => e = .returned (.int .i64 (checkSn s)) ∧ Below w.heap.size w w' := by
  have hms := h.hm
  obtain ⟨A, c, rfl, rfl, rfl, hl⟩ := lists_at h
  clear h
  have hR := Row.new w (snL s (.slice (A 0) (lst s 0).length (c 0)) (.slice (A 1) (lst s 1).length (c 1)) (.slice (A 2) (lst s 2).length (c 2))).toArray 28
  have hb0 := (Below.refl w.heap.size w).alloc (Nat.le_refl _) (.cells (snL s (.slice (A 0) (lst s 0).length (c 0)) (.slice (A 1) (lst s 1).length (c 1)) (.slice (A 2) (lst s 2).length (c 2))).toArray 28)
  go_enter Tryd.func28, Tryd.ntmps28
  go_upto_region 1 with (fail)
  refine wp_abs (fun W HW => ?_)
  rw [← HW.out] at hR hb0
  clear HW
  have hck : checkSn s = if machineB s.mach = false then 7 else if rangeB s = false then 2 else if 1000 < sumTo s 3 then 6 else if badS s = true then 3 else 0 := rfl
  have HK := Sec.mk hck
  have HL := Sec.mk hl
  clear hck hl
  obtain ⟨k0, -, -, -, -, -, -, -, -⟩ := sn_cells hR
  go_wp2_with fail
  refine (rmach_any s.mach hms _).mono ?_
  rintro e w1 ⟨rfl, hdr⟩
  have hb1 := hdr.below
  have hR1 : Row w1 w.heap.size 28 _ := hR.below hb1 hR.lt
  replace hb1 := hb0.trans (hb1.mono hb0.size)
  clear hR hb0 k0 hdr
  generalize hm : machineB s.mach = bm
  cases bm with
  | false =>
    go_wp2_with fail
    go_ret
    exact ⟨by rw [HK.out, if_pos hm]; rfl, hb1⟩
  | true =>
    obtain ⟨-, k1, k2, -, k4, k5, -, -, -⟩ := sn_cells hR1
    have HM := Sec.mk hm
    clear hm
    go_upto_region 3 with (fail)
    go_cut [50] (fun v50 wc => (∃ rb : Bool, v50 = .bool rb ∧ Sec (rb = !(rangeB s))) ∧ Row wc w.heap.size 28 (snL s (.slice (A 0) (lst s 0).length (c 0)) (.slice (A 1) (lst s 1).length (c 1)) (.slice (A 2) (lst s 2).length (c 2))).toArray ∧ Below w.heap.size w wc)
    case first =>
      by_cases q0 : s.n < 1
      · have d0 : decide (s.n < 1) = true := decide_eq_true q0
        have HQ := Sec.mk (range_no s (by omega))
        clear q0
        go_wp2_with fail
        go_meet
        exact ⟨⟨true, rfl, ⟨by rw [HQ.out]; rfl⟩⟩, hR1, hb1⟩
      have d0 : decide (s.n < 1) = false := decide_eq_false q0
      by_cases q1 : 100000000 < s.n
      · have d1 : decide (100000000 < s.n) = true := decide_eq_true q1
        have HQ := Sec.mk (range_no s (by omega))
        clear q1
        go_wp2_with fail
        go_meet
        exact ⟨⟨true, rfl, ⟨by rw [HQ.out]; rfl⟩⟩, hR1, hb1⟩
      have d1 : decide (100000000 < s.n) = false := decide_eq_false q1
      by_cases q2 : s.at_ < 0
      · have d2 : decide (s.at_ < 0) = true := decide_eq_true q2
        have HQ := Sec.mk (range_no s (by omega))
        clear q2
        go_wp2_with fail
        go_meet
        exact ⟨⟨true, rfl, ⟨by rw [HQ.out]; rfl⟩⟩, hR1, hb1⟩
      have d2 : decide (s.at_ < 0) = false := decide_eq_false q2
      by_cases q3 : 1000000000000 < s.at_
      · have d3 : decide (1000000000000 < s.at_) = true := decide_eq_true q3
        have HQ := Sec.mk (range_no s (by omega))
        clear q3
        go_wp2_with fail
        go_meet
        exact ⟨⟨true, rfl, ⟨by rw [HQ.out]; rfl⟩⟩, hR1, hb1⟩
      have d3 : decide (1000000000000 < s.at_) = false := decide_eq_false q3
      by_cases q4 : s.pages < 1
      · have d4 : decide (s.pages < 1) = true := decide_eq_true q4
        have HQ := Sec.mk (range_no s (by omega))
        clear q4
        go_wp2_with fail
        go_meet
        exact ⟨⟨true, rfl, ⟨by rw [HQ.out]; rfl⟩⟩, hR1, hb1⟩
      have d4 : decide (s.pages < 1) = false := decide_eq_false q4
      by_cases q5 : 64 < s.pages
      · have d5 : decide (64 < s.pages) = true := decide_eq_true q5
        have HQ := Sec.mk (range_no s (by omega))
        clear q5
        go_wp2_with fail
        go_meet
        exact ⟨⟨true, rfl, ⟨by rw [HQ.out]; rfl⟩⟩, hR1, hb1⟩
      have d5 : decide (64 < s.pages) = false := decide_eq_false q5
      by_cases q6 : s.blocks < 1
      · have d6 : decide (s.blocks < 1) = true := decide_eq_true q6
        have HQ := Sec.mk (range_no s (by omega))
        clear q6
        go_wp2_with fail
        go_meet
        exact ⟨⟨true, rfl, ⟨by rw [HQ.out]; rfl⟩⟩, hR1, hb1⟩
      have d6 : decide (s.blocks < 1) = false := decide_eq_false q6
      by_cases q7 : 256 < s.blocks
      · have d7 : decide (256 < s.blocks) = true := decide_eq_true q7
        have HQ := Sec.mk (range_no s (by omega))
        clear q7
        go_wp2_with fail
        go_meet
        exact ⟨⟨true, rfl, ⟨by rw [HQ.out]; rfl⟩⟩, hR1, hb1⟩
      have d7 : decide (256 < s.blocks) = false := decide_eq_false q7
      have HQ := Sec.mk (range_yes s (by omega))
      clear q0 q1 q2 q3 q4 q5 q6 q7
      go_wp2_with fail
      go_meet
      exact ⟨⟨false, rfl, ⟨by rw [HQ.out]; rfl⟩⟩, hR1, hb1⟩
    case rest =>
      clear k1 k2 k4 k5 hR1 hb1
      obtain ⟨⟨rb, rfl, HRB⟩, hR, hb⟩ := hcut
      cases rb with
      | true =>
        have hrf : rangeB s = false := by have := HRB.out; simpa using this.symm
        have HX := Sec.mk hrf
        clear hrf
        go_wp2_with fail
        go_ret
        exact ⟨by rw [HK.out, HM.out, if_neg (by decide), if_pos HX.out]; rfl, hb⟩
      | false =>
        have hrf : rangeB s = true := by have := HRB.out; simpa using this.symm
        have HX := Sec.mk (HK.out.trans ((if_neg (by rw [HM.out]; decide)).trans (if_neg (by rw [hrf]; decide))))
        clear hrf HK HRB HM
        obtain ⟨-, -, -, -, -, -, k6, k7, k8⟩ := sn_cells hR
        have l0 := (HL.out 0 (by omega)).2.2.1
        have l1 := (HL.out 1 (by omega)).2.2.1
        have l2 := (HL.out 2 (by omega)).2.2.1
        have hsum : sumTo s 3 = (lst s 0).length + (lst s 1).length + (lst s 2).length := rfl
        have hls := sn_lists hR
        have hix := idx3 (fun i => .slice (A i) (lst s i).length (c i))
        by_cases h1000 : 1000 < sumTo s 3
        · have hd2 : decide ((1000 : Int) < ((lst s 0).length : Int) + (lst s 1).length + (lst s 2).length) = true := decide_eq_true (by omega)
          have HV := Sec.mk (HX.out.trans (if_pos h1000))
          clear HX h1000 hsum hls hix
          go_wp2_with fail
          go_ret
          exact ⟨by rw [HV.out]; rfl, hb⟩
        · have hd2 : decide ((1000 : Int) < ((lst s 0).length : Int) + (lst s 1).length + (lst s 2).length) = false := decide_eq_false (by omega)
          have HV := Sec.mk (HX.out.trans (if_neg h1000))
          clear HX h1000 hsum
          go_wp2_with (refine wpList_load_list rfl 24 (.tmp 66) rfl w.heap.size 6 rfl _ hls ?_)
          clear hd2 l0 l1 l2 k6 k7 k8 hls hR
          go_loopw [68] (fun v68 wr => ∃ i : Nat, i ≤ 3 ∧ v68 = .int .i64 i ∧ Below w.heap.size w wr ∧ ∀ j, j < i → anyBad (lst s j) = false) (fun v68 _ => 3 - (intOf v68).toNat)
          case atStart => exact ⟨0, by omega, rfl, hb, fun j hj => absurd hj (Nat.not_lt_zero _)⟩
          case round =>
            clear hb
            obtain ⟨i, hi, rfl, hb, hgood⟩ := hrel
            by_cases hlt : i < 3
            · have hd : decide ((i : Int) < 3) = true := decide_eq_true (by omega)
              have hixi := hix i hlt
              obtain ⟨hli, hC, hln, _⟩ := HL.out i hlt
              have HG := Sec.mk hgood
              have HIX := Sec.mk hix
              clear hix hgood
              have HS := Sec.mk (fun h => badS_at s i hlt h)
              obtain ⟨ll, hll⟩ : ∃ ll, ll = lst s i := ⟨_, rfl⟩
              rw [← hll] at hixi hli hC hln HS
              have HE := Sec.mk hll
              clear hll
              generalize A i = Ai at *
              generalize c i = ci at *
              go_wp2_with fail
              go_loopw [73] (fun v73 wr => ∃ j : Nat, j ≤ ll.length ∧ v73 = .int .i64 j ∧ Below w.heap.size w wr ∧ Sec (∀ (m : Nat) (x : ByteArray), m < j → ll[m]? = some x → ofOk x = true)) (fun v73 _ => ll.length - (intOf v73).toNat)
              case atStart => exact ⟨0, by omega, rfl, hb, ⟨fun m x hm => absurd hm (Nat.not_lt_zero _)⟩⟩
              case round =>
                clear hb
                obtain ⟨j, hj, rfl, hb, HJ⟩ := hrel
                by_cases hjl : j < ll.length
                · have hdj : decide ((j : Int) < ll.length) = true := decide_eq_true (by omega)
                  have hC' := Kd.C_below hC hb
                  obtain ⟨ad, e, hx⟩ := Kd.at_string hC' (j : Int) (by omega) (by omega)
                  cases e
                  obtain ⟨x, hxj⟩ : ∃ x, ll[j]? = some x := ⟨_, List.getElem?_eq_getElem hjl⟩
                  have hx' : wr.cell? (ad.add j) = some (.string x) := by
                    have h := hx
                    rw [rdOf_at _ _ _ _ hxj] at h
                    exact h
                  have HXJ := Sec.mk hxj
                  clear hx hxj hC'
                  have p2 : (0 ≤ (j : Int)) = True := eq_true (by omega)
                  have q2 : ((j : Int) < ll.length) = True := eq_true (by omega)
                  go_wp2_with fail
                  refine (rof_any x _).mono ?_
                  rintro e w2 ⟨rfl, hb2⟩
                  replace hb2 := hb.trans (hb2.mono hb.size)
                  have hb3 := below_row (hb2.alloc hb2.size (.cells (Lib.byteCells (List.replicate 32 0)).toArray 26)) hb2.size (Lib.byteCells (ofD x)).toArray
                  clear hb hx'
                  cases hok : ofOk x with
                  | false =>
                    have HB := Sec.mk (HS.out (anyBad_at ll j x HXJ.out hok))
                    clear hok
                    go_wp2_with (refine wpList_store_row rfl 26 (.tmp 7) (.tmp 80) rfl w2.heap.size (Lib.byteCells (ofD x)).toArray rfl rfl 26 _ (Row.new w2 (Lib.byteCells (List.replicate 32 0)).toArray 26) (i26 _ (ofD_len x)) (by simp [Lib.byteCells_length, ofD_len]) (byteCells_all _) ?_)
                    go_ret
                    exact ⟨by rw [HV.out, if_pos HB.out]; rfl, hb3⟩
                  | true =>
                    have HO := Sec.mk hok
                    clear hok
                    go_wp2_with (refine wpList_store_row rfl 26 (.tmp 7) (.tmp 80) rfl w2.heap.size (Lib.byteCells (ofD x)).toArray rfl rfl 26 _ (Row.new w2 (Lib.byteCells (List.replicate 32 0)).toArray 26) (i26 _ (ofD_len x)) (by simp [Lib.byteCells_length, ofD_len]) (byteCells_all _) ?_)
                    go_roundw
                    case rel =>
                      refine ⟨j + 1, by omega, by go_num, hb3, ⟨fun m y hm hy => ?_⟩⟩
                      by_cases hmj : m = j
                      · rw [hmj, HXJ.out] at hy
                        rw [← Option.some.inj hy]
                        exact HO.out
                      · exact HJ.out m y (by omega) hy
                    case measure => simp [intOf]; omega
                · have hdj : decide ((j : Int) < ll.length) = false := decide_eq_false (by omega)
                  obtain rfl : j = ll.length := by omega
                  have HN := Sec.mk (anyBad_no ll (fun m x h => HJ.out m x (List.getElem?_eq_some_iff.1 h).1 h))
                  go_wp2_with fail
                  go_roundw
                  case rel =>
                    refine ⟨i + 1, by omega, by go_num, hb, fun m hm => ?_⟩
                    by_cases hmi : m = i
                    · rw [hmi]
                      rw [← HE.out]
                      exact HN.out
                    · exact HG.out m (by omega)
                  case measure => simp [intOf]; omega
            · have hd : decide ((i : Int) < 3) = false := decide_eq_false (by omega)
              obtain rfl : i = 3 := by omega
              have HB := Sec.mk (badS_no s hgood)
              clear hix hgood
              go_wp2_with fail
              go_ret
              exact ⟨by rw [HV.out, HB.out]; rfl, hb⟩
end Go.Proofs.YtokcmaehojljdaaDoor

/- The reference's raw: the bytes of digests, one behind the other: its walk. -/
namespace Go.Proofs.YtokcmaehojljdaaDoor
open Go.RowKit Go.Shelf Go.Proofs.YtokcmaehojljdaaDoorW.PrintWords Go.Proofs.YtokcmaehojljdaaDoorW.PrintLast Go.Proofs.YtokcmaehojljdaaDoorW.PrintMore

def bstr (L : List UInt8) : ByteArray := ⟨L.toArray⟩
theorem bstr_size (L : List UInt8) : (bstr L).size = L.length := bytes_size L
theorem bstr_snoc (L : List UInt8) (u : UInt8) : bstr L ++ ⟨#[u]⟩ = bstr (L ++ [u]) := bytes_app L [u]
theorem flat_take (l : List ByteArray) (i : Nat) (x : ByteArray) (h : l[i]? = some x) : (l.take (i + 1)).flatMap ofD = (l.take i).flatMap ofD ++ ofD x := by
  have : l.take (i + 1) = l.take i ++ [x] := by rw [List.take_add_one, h]; rfl
  rw [this, List.flatMap_append]
  simp
theorem one_text (w : World) (u : UInt8) : (convert 42 9 (.slice (some ⟨w.heap.size, 0, none⟩) 1 1)).run Tryd.prog (w.alloc (.cells #[.int .u8 (u.toNat : Int)] 5)) = .ok (.string ⟨#[u]⟩) (w.alloc (.cells #[.int .u8 (u.toNat : Int)] 5)) := by
  have h := run_text_of_row Tryd.underlying42 Tryd.underlying5 Tryd.underlying9 (Row.new w (vs .u8 [u.toNat]) 5) (o := 0) (n := 1) (by simp) 1
  have e : txt ((([u.toNat] : List Nat).drop 0).take 1) = ⟨#[u]⟩ := by
    show (⟨#[UInt8.ofNat u.toNat]⟩ : ByteArray) = _
    rw [UInt8.ofNat_toNat]
  rw [e] at h
  exact h
set_option maxHeartbeats 4000000 in
set_option maxRecDepth 100000 in
theorem raw_any (A : Option Addr) (c : Nat) (l : List ByteArray) (w : World) (hC : Kd.C Kd.string w A l.length l) (hl : l.length ≤ 1000) :
    Calls Tryd.prog 64 #[.slice A l.length c] w fun e w' => e = .returned (.string (digs l)) ∧ Below w.heap.size w w' := by
  have hb0 := Below.refl w.heap.size w
  have hdg : digs l = bstr (l.flatMap ofD) := rfl
  have HD := Sec.mk hdg
  clear hdg
  go_enter Tryd.func64, Tryd.ntmps64
  go_wp2_with fail
  go_loopw [3, 11] (fun v3 v11 wr => ∃ i : Nat, i ≤ l.length ∧ v11 = .int .i64 i ∧ v3 = .string (bstr ((l.take i).flatMap ofD)) ∧ Below w.heap.size w wr) (fun _ v11 _ => l.length - (intOf v11).toNat)
  case atStart => exact ⟨0, by omega, rfl, rfl, hb0⟩
  case round =>
    clear hb0
    obtain ⟨i, hi, rfl, rfl, hb⟩ := hrel
    by_cases hlt : i < l.length
    · have hd : decide ((i : Int) < l.length) = true := decide_eq_true (by omega)
      have hC' := Kd.C_below hC hb
      obtain ⟨ad, e, hx⟩ := Kd.at_string hC' (i : Int) (by omega) (by omega)
      cases e
      obtain ⟨x, hxj⟩ : ∃ x, l[i]? = some x := ⟨_, List.getElem?_eq_getElem hlt⟩
      have hx' : wr.cell? (ad.add i) = some (.string x) := by
        have h := hx
        rw [rdOf_at _ _ _ _ hxj] at h
        exact h
      have hft := flat_take l i x hxj
      have hfl : ((l.take i).flatMap ofD).length = 32 * i := by rw [flat_len, List.length_take]; omega
      clear hx hxj hC'
      have p2 : (0 ≤ (i : Int)) = True := eq_true (by omega)
      have q2 : ((i : Int) < l.length) = True := eq_true (by omega)
      obtain ⟨L, hL⟩ : ∃ L, L = (l.take i).flatMap ofD := ⟨_, rfl⟩
      rw [← hL] at hft hfl ⊢
      have HFT := Sec.mk hft
      clear hL hft
      go_wp2_with fail
      refine (rof_any x _).mono ?_
      rintro e w2 ⟨rfl, hb2⟩
      replace hb2 := hb.trans (hb2.mono hb.size)
      have hb3 := below_row (hb2.alloc hb2.size (.cells (Lib.byteCells (List.replicate 32 0)).toArray 26)) hb2.size (Lib.byteCells (ofD x)).toArray
      have hr3 := (Row.new w2 (Lib.byteCells (List.replicate 32 0)).toArray 26).row (C := (Lib.byteCells (ofD x)).toArray)
      have hol := ofD_len x
      clear hb hx'
      go_upto_region 6 with (refine wpList_store_row rfl 26 (.tmp 6) (.tmp 18) rfl w2.heap.size (Lib.byteCells (ofD x)).toArray rfl rfl 26 _ (Row.new w2 (Lib.byteCells (List.replicate 32 0)).toArray 26) (i26 _ (ofD_len x)) (by simp [Lib.byteCells_length, ofD_len]) (byteCells_all _) ?_)
      refine wp_abs (fun W4 HW => ?_)
      replace hb3 : Below w.heap.size w W4 := by rw [HW.out]; exact hb3
      replace hr3 : Row W4 w2.heap.size 26 (Lib.byteCells (ofD x)).toArray := by rw [HW.out]; exact hr3
      clear HW
      have hlt2 : w.heap.size ≤ w2.heap.size := hb2.size
      generalize w2.heap.size = B at *
      clear hb2
      generalize ofOk x = okx
      obtain ⟨X, hX⟩ : ∃ X, X = ofD x := ⟨_, rfl⟩
      rw [← hX] at hr3 hol HFT ⊢
      clear hX
      go_wp2_with fail
      go_loopw [3, 8] (fun v3 v8 wr => ∃ j : Nat, j ≤ 32 ∧ v8 = .int .i64 j ∧ v3 = .string (bstr (L ++ X.take j)) ∧ Row wr B 26 (Lib.byteCells X).toArray ∧ Below w.heap.size w wr) (fun _ v8 _ => 32 - (intOf v8).toNat)
      case atStart => exact ⟨0, by omega, rfl, by simp, hr3, hb3⟩
      case round =>
        clear hr3 hb3
        obtain ⟨j, hj, rfl, rfl, hr3, hb3⟩ := hrel
        by_cases hj32 : j < 32
        · have hdj : decide ((j : Int) < 32) = true := decide_eq_true (by omega)
          obtain ⟨u, hu⟩ : ∃ u, X[j]? = some u := ⟨X[j]'(by omega), List.getElem?_eq_getElem (by omega)⟩
          have hc0 : wr.cell? ⟨B, j, none⟩ = some (.int .u8 (u.toNat : Int)) := (hr3.at_ j).trans (by simp [Lib.byteCells, hu])
          have hcv := one_text wr u
          have hsn : bstr (L ++ X.take j) ++ ⟨#[u]⟩ = bstr (L ++ X.take (j + 1)) := by
            rw [bstr_snoc, List.append_assoc, List.take_add_one, hu]; rfl
          have hsz : (bstr (L ++ X.take j)).size ≤ 40000 := by rw [bstr_size, List.length_append, List.length_take]; omega
          have p3 : (0 ≤ (j : Int)) = True := eq_true (by omega)
          have q3 : ((j : Int) < 32) = True := eq_true (by omega)
          have hal : Tryd.prog.arrayLen 26 = 32 := by kernel_rfl
          have hz1 : (⟨#[u]⟩ : ByteArray).size = 1 := rfl
          have HSN := Sec.mk hsn
          clear hsn hu
          generalize bstr (L ++ X.take j) = s at *
          go_wp2_with fail
          go_roundw
          case rel => exact ⟨j + 1, by omega, by go_num, by rw [← HSN.out], hr3.alloc _, hb3.alloc hb3.size _⟩
          case measure => simp [intOf]; omega
        · have hdj : decide ((j : Int) < 32) = false := decide_eq_false (by omega)
          obtain rfl : j = 32 := by omega
          have e : L ++ X.take 32 = L ++ X := by rw [List.take_of_length_le (by omega)]
          rw [e]
          go_wp2_with fail
          go_roundw
          case rel => exact ⟨i + 1, by omega, by go_num, by rw [HFT.out], hb3⟩
          case measure => simp [intOf]; omega
    · have hd : decide ((i : Int) < l.length) = false := decide_eq_false (by omega)
      obtain rfl : i = l.length := by omega
      have e : l.take l.length = l := List.take_of_length_le (Nat.le_refl _)
      rw [e, ← HD.out]
      go_wp2_with fail
      go_ret
      exact ⟨rfl, hb⟩
end Go.Proofs.YtokcmaehojljdaaDoor
