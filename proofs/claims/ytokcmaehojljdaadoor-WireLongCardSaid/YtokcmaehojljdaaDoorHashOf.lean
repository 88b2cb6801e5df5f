/- hash.Of: the digest of a text: its walk. -/
import Derived.Test.YtokcmaehojljdaaDoorSnap
import Derived.Test.YtokcmaehojljdaaDoorShelf
import Derived.BigQuiet
import Derived.Laws.ResultCell
namespace Go.Proofs.YtokcmaehojljdaaDoor
open Go.RowKit Go.Proofs.YtokcmaehojljdaaDoorW.PrintWords Go.Proofs.YtokcmaehojljdaaDoorW.PrintLast Go.Proofs.YtokcmaehojljdaaDoorW.PrintMore
open Cc (g)

def hexT : ByteArray := ⟨#[48, 49, 50, 51, 52, 53, 54, 55, 56, 57, 97, 98, 99, 100, 101, 102]⟩
/-- Which digit a sign is; -1: none. -/
def hexI (x : Nat) : Int := Lib.indexByte hexT.data.toList x.toUInt8
theorem hexI_fin : ∀ n : Fin 256, -1 ≤ Lib.indexByte hexT.data.toList (UInt8.ofNat n.val) ∧ Lib.indexByte hexT.data.toList (UInt8.ofNat n.val) ≤ 15 := by decide +kernel
theorem hexI_range (x : Nat) : -1 ≤ hexI x ∧ hexI x ≤ 15 := by
  have h := hexI_fin ⟨x % 256, Nat.mod_lt _ (by decide)⟩
  have e : (UInt8.ofNat (x % 256)) = x.toUInt8 := by
    apply UInt8.toNat_inj.1
    simp
  rw [e] at h
  exact h
theorem or16 : ∀ a b : Fin 16, Go.bits .or .i64 ((a.val : Int) * 16) (b.val : Int) = ((16 * a.val + b.val : Nat) : Int) := by decide +kernel
/-- The digit pair at a place, and whether it is one. -/
def goodB (L : List Nat) (j : Nat) : Bool := decide (0 ≤ hexI (g L (2 * j))) && decide (0 ≤ hexI (g L (2 * j + 1)))
def dgU (L : List Nat) (j : Nat) : UInt8 := UInt8.ofNat (16 * (hexI (g L (2 * j))).toNat + (hexI (g L (2 * j + 1))).toNat)
def dgs (L : List Nat) (i : Nat) : List UInt8 := (List.range i).map (dgU L) ++ List.replicate (32 - i) 0
def ofOk (s : ByteArray) : Bool := (s.size == 64) && (List.range 32).all (goodB (bytes s))
def ofD (s : ByteArray) : List UInt8 := if ofOk s = true then dgs (bytes s) 32 else List.replicate 32 0
theorem dgs_len (L : List Nat) (i : Nat) (h : i ≤ 32) : (dgs L i).length = 32 := by simp [dgs]; omega
theorem dgs_set (L : List Nat) (i : Nat) (h : i < 32) : (dgs L i).set i (dgU L i) = dgs L (i + 1) := by
  obtain ⟨m, hm⟩ : ∃ m, 32 - i = m + 1 := ⟨32 - i - 1, by omega⟩
  unfold dgs
  rw [hm, List.replicate_succ, List.set_append_right _ _ (by simp), List.range_succ, List.map_append]
  have : 32 - (i + 1) = m := by omega
  rw [this]
  simp
theorem byteRow_set {w : World} {b t : Nat} {X : List UInt8} (h : Row w b t (Lib.byteCells X).toArray) (i : Nat) (u : UInt8) : Row (w.setCell ⟨b, i, none⟩ (.int .u8 (u.toNat : Int))) b t (Lib.byteCells (X.set i u)).toArray := by
  have := h.put i (.int .u8 (u.toNat : Int))
  have e : (Lib.byteCells X).toArray.setIfInBounds i (.int .u8 (u.toNat : Int)) = (Lib.byteCells (X.set i u)).toArray := by
    simp [Lib.byteCells, List.map_set]
  rwa [e] at this
theorem byteRow_cell {w : World} {b t : Nat} {X : List UInt8} (h : Row w b t (Lib.byteCells X).toArray) (i : Nat) (hi : i < X.length) : ∃ x, w.cell? ⟨b, i, none⟩ = some (.int .u8 x) := by
  refine ⟨((X[i]'hi).toNat : Int), (h.at_ i).trans ?_⟩
  simp [Lib.byteCells, List.getElem?_eq_getElem hi]
theorem byteCells_all (l : List UInt8) : (Lib.byteCells l).toArray.all (·.oneCell') = true := by
  simp only [Lib.byteCells, List.all_toArray, List.all_eq_true, List.mem_map]
  rintro v ⟨x, _, rfl⟩
  rfl
theorem i26 (X : List UInt8) (h : X.length = 32) : (Tryd.prog.info? 26).map (·.size) = some (Lib.byteCells X).toArray.size := by
  rw [List.size_toArray, Lib.byteCells_length, h]; kernel_rfl
set_option maxHeartbeats 4000000 in
set_option maxRecDepth 100000 in
theorem of_any (s : ByteArray) (w : World) : Calls Tryd.prog 42 #[.string s] w fun e w' => e = .returned (.tuple #[.agg (Lib.byteCells (ofD s)).toArray, .bool (ofOk s)]) ∧ Below w.heap.size w w' := by
  have HI := Sec.mk (fun (c : Int) w => Tryd.strings_IndexByte hexT c w)
  have hb0 := ((Below.refl w.heap.size w).alloc (Nat.le_refl _) (.cells (Array.replicate 32 (.int .u8 0)) 26)).alloc (by simp) (.cells (Array.replicate 32 (.int .u8 0)) 26)
  have hR : Row ((w.alloc (.cells (Array.replicate 32 (.int .u8 0)) 26)).alloc (.cells (Array.replicate 32 (.int .u8 0)) 26)) w.heap.size 26 (Lib.byteCells (List.replicate 32 0)).toArray := (Row.new w _ 26).alloc _
  have hD : Row ((w.alloc (.cells (Array.replicate 32 (.int .u8 0)) 26)).alloc (.cells (Array.replicate 32 (.int .u8 0)) 26)) (w.heap.size + 1) 26 (Lib.byteCells (dgs (bytes s) 0)).toArray := Row.new1 w _ _ 26
  have hno : ∀ (W : World) (tm : Array Value), Row W w.heap.size 26 (Lib.byteCells (List.replicate 32 0)).toArray → Below w.heap.size w W → ofOk s = false → tm.getD 2 undef = .pointer (some ⟨w.heap.size, 0, none⟩) → tm.getD 3 undef = .bool false →
      (results Tryd.f42 tm).run Tryd.prog W = .ok (.tuple #[.agg (Lib.byteCells (ofD s)).toArray, .bool (ofOk s)]) W := by
    intro W tm hr _ hk h2 h3
    have e9 : ofD s = List.replicate 32 0 := by rw [ofD, hk]; rfl
    rw [e9, hk]
    rw [results_cell_tmp rfl, h2, h3]
    have hl := run_load_list (P := Tryd.prog) W w.heap.size 0 26 26 (Lib.byteCells (List.replicate 32 0)) (Lib.byteCells (List.replicate 32 0)) _ hr (fun j v hv => by rw [Nat.zero_add]; exact hv) Tryd.underlying26 rfl (by kernel_rfl)
    simp [asAddr, hl]
  go_enter Tryd.func42, Tryd.ntmps42
  go_upto_region 2 with (fail)
  refine wp_abs (fun W HW => ?_)
  have HW' : W = (w.alloc (.cells (Array.replicate 32 (.int .u8 0)) 26)).alloc (.cells (Array.replicate 32 (.int .u8 0)) 26) := HW.out
  rw [← HW'] at hb0 hR hD
  clear HW HW'
  by_cases h64 : s.size = 64
  · have c1 : (s.size : Int) = 64 := by omega
    have hL : (bytes s).length = 64 := by rw [bytes_len, h64]
    have hsl : s.data.toList.map UInt8.toNat = bytes s := rfl
    go_wp2_with fail
    go_loopw [12] (fun v12 wr => ∃ i : Nat, i ≤ 32 ∧ v12 = .int .i64 i ∧ Below w.heap.size w wr ∧ Row wr w.heap.size 26 (Lib.byteCells (List.replicate 32 0)).toArray ∧ Row wr (w.heap.size + 1) 26 (Lib.byteCells (dgs (bytes s) i)).toArray ∧ ∀ j, j < i → goodB (bytes s) j = true) (fun v12 _ => 32 - (intOf v12).toNat)
    case atStart => exact ⟨0, by omega, rfl, hb0, hR, hD, fun j hj => absurd hj (Nat.not_lt_zero _)⟩
    case round =>
      clear hb0 hR hD
      obtain ⟨i, hi, rfl, hb, hR, hD, hgood⟩ := hrel
      by_cases hlt : i < 32
      · have hd : decide ((i : Int) < 32) = true := decide_eq_true (by omega)
        have f0 := fun w => run_index_text Tryd.underlying9 s (bytes s) hsl (2 * (i : Int)) (2 * i) (by omega) (by omega) w
        have f1 := fun w => run_index_text Tryd.underlying9 s (bytes s) hsl (2 * (i : Int) + 1) (2 * i + 1) (by omega) (by omega) w
        have ga : goodB (bytes s) i = (decide (0 ≤ hexI (g (bytes s) (2 * i))) && decide (0 ≤ hexI (g (bytes s) (2 * i + 1)))) := rfl
        have gd : dgU (bytes s) i = UInt8.ofNat (16 * (hexI (g (bytes s) (2 * i))).toNat + (hexI (g (bytes s) (2 * i + 1))).toNat) := rfl
        obtain ⟨ra0, ra1⟩ := hexI_range (g (bytes s) (2 * i))
        obtain ⟨rb0, rb1⟩ := hexI_range (g (bytes s) (2 * i + 1))
        have HA := Sec.mk (fun w => HI.out (g (bytes s) (2 * i) : Nat) w)
        have HB := Sec.mk (fun w => HI.out (g (bytes s) (2 * i + 1) : Nat) w)
        have ha : Lib.indexByte hexT.data.toList ((g (bytes s) (2 * i) : Nat) : Int).toNat.toUInt8 = hexI (g (bytes s) (2 * i)) := rfl
        have hb' : Lib.indexByte hexT.data.toList ((g (bytes s) (2 * i + 1) : Nat) : Int).toNat.toUInt8 = hexI (g (bytes s) (2 * i + 1)) := rfl
        rw [ha] at HA
        rw [hb'] at HB
        clear ha hb'
        have hset := dgs_set (bytes s) i hlt
        obtain ⟨x, hcell⟩ := byteRow_cell hD i (by rw [dgs_len _ _ hi]; exact hlt)
        have hfree := hD.free i
        generalize hexI (g (bytes s) (2 * i)) = a at *
        generalize hexI (g (bytes s) (2 * i + 1)) = b at *
        go_wp2_with fail
        go_quiet ((first | (go_at_call 62; exact Calls.quiet_of_same (HA.out _)) | (go_at_call 62; exact Calls.quiet_of_same (HB.out _))))
        by_cases h0 : 0 ≤ a ∧ 0 ≤ b
        · have d1 : ¬ (a < 0) := by omega
          have d2 : ¬ (b < 0) := by omega
          go_wp2_with fail
          have ev : bits .or .i64 (a * 16) b % 256 = ((dgU (bytes s) i).toNat : Int) := by
            obtain ⟨m, rfl⟩ := Int.eq_ofNat_of_zero_le h0.1
            obtain ⟨n, rfl⟩ := Int.eq_ofNat_of_zero_le h0.2
            have := or16 ⟨m, by omega⟩ ⟨n, by omega⟩
            simp only [] at this
            rw [this, gd, Int.toNat_natCast, Int.toNat_natCast]
            simp
          have hDs := byteRow_set (hD.drewN nq) i (dgU (bytes s) i)
          rw [hset, ← ev] at hDs
          have hg' : goodB (bytes s) i = true := by rw [ga, decide_eq_true h0.1, decide_eq_true h0.2]; rfl
          refine ⟨⟨i + 1, by omega, by go_num, (below_drewN' hb nq).setCell (by show w.heap.size ≤ w.heap.size + 1; omega) _, (hR.drewN nq).aside (by show w.heap.size ≠ w.heap.size + 1; omega) _, hDs, fun j hj => ?_⟩, by simp [intOf]; omega⟩
          by_cases hji : j = i
          · rw [hji]; exact hg'
          · exact hgood j (by omega)
        · have hbad : ofOk s = false := by
            unfold ofOk
            rw [Bool.and_eq_false_iff]
            refine .inr ?_
            rw [List.all_eq_false]
            refine ⟨i, List.mem_range.2 hlt, ?_⟩
            rw [ga]
            intro e
            rw [Bool.and_eq_true, decide_eq_true_eq, decide_eq_true_eq] at e
            exact h0 e
          have hb9 := below_row (below_drewN' hb nq) (Nat.le_refl _) (Lib.byteCells (List.replicate 32 0)).toArray
          have hRd := hR.drewN nq
          by_cases d1 : a < 0
          · go_wp2_with (refine wpList_store_row rfl 26 (.tmp 2) (.tmp 32) rfl w.heap.size (Lib.byteCells (List.replicate 32 0)).toArray rfl rfl 26 _ hRd (i26 _ (by simp)) rfl (byteCells_all _) ?_)
            exact bodyPost_ret (hno _ _ hRd.row hb9 hbad rfl rfl) rfl ⟨by rw [hbad], hb9⟩
          · have d2 : b < 0 := by omega
            go_wp2_with (refine wpList_store_row rfl 26 (.tmp 2) (.tmp 32) rfl w.heap.size (Lib.byteCells (List.replicate 32 0)).toArray rfl rfl 26 _ hRd (i26 _ (by simp)) rfl (byteCells_all _) ?_)
            exact bodyPost_ret (hno _ _ hRd.row hb9 hbad rfl rfl) rfl ⟨by rw [hbad], hb9⟩
      · have hd : decide ((i : Int) < 32) = false := decide_eq_false (by omega)
        obtain rfl : i = 32 := by omega
        have hok : ofOk s = true := by
          unfold ofOk
          rw [beq_iff_eq.2 h64, Bool.true_and, List.all_eq_true]
          exact fun j hj => hgood j (List.mem_range.1 hj)
        have hl := dgs_len (bytes s) 32 (by omega)
        have hE := run_load_list (P := Tryd.prog) wr (w.heap.size + 1) 0 26 26 (Lib.byteCells (dgs (bytes s) 32)) (Lib.byteCells (dgs (bytes s) 32)) _ hD (fun j v hv => by rw [Nat.zero_add]; exact hv) Tryd.underlying26 rfl (by rw [Lib.byteCells_length, hl]; kernel_rfl)
        go_wp2_with (first | refine wpList_load_list rfl 26 (.tmp 4) rfl (w.heap.size + 1) 0 rfl _ hE ?_ | refine wpList_store_row rfl 26 (.tmp 2) (.tmp 41) rfl w.heap.size (Lib.byteCells (dgs (bytes s) 32)).toArray rfl rfl 26 _ hR (i26 _ hl) (by simp [Lib.byteCells_length, hl]) (byteCells_all _) ?_)
        have hb9 := below_row hb (Nat.le_refl _) (Lib.byteCells (dgs (bytes s) 32)).toArray
        have e9 : ofD s = dgs (bytes s) 32 := by rw [ofD, if_pos hok]
        refine bodyPost_ret (v := .tuple #[.agg (Lib.byteCells (dgs (bytes s) 32)).toArray, .bool true]) ?_ rfl ⟨by rw [e9, hok], hb9⟩
        rw [results_cell_tmp rfl]
        have hl2 := run_load_list (P := Tryd.prog) _ w.heap.size 0 26 26 (Lib.byteCells (dgs (bytes s) 32)) (Lib.byteCells (dgs (bytes s) 32)) _ (hR.row (C := (Lib.byteCells (dgs (bytes s) 32)).toArray)) (fun j v hv => by rw [Nat.zero_add]; exact hv) Tryd.underlying26 rfl (by rw [Lib.byteCells_length, hl]; kernel_rfl)
        simp [asAddr, hl2]
  · have c1 : ¬ (s.size : Int) = 64 := by omega
    have hk : ofOk s = false := by unfold ofOk; rw [beq_eq_false_iff_ne.2 h64, Bool.false_and]
    go_wp2_with (refine wpList_store_row rfl 26 (.tmp 2) (.tmp 11) rfl w.heap.size (Lib.byteCells (List.replicate 32 0)).toArray rfl rfl 26 _ hR (i26 _ (by simp)) rfl (byteCells_all _) ?_)
    exact bodyPost_ret (hno _ _ hR.row (below_row hb0 (Nat.le_refl _) _) hk rfl rfl) rfl ⟨by rw [hk], below_row hb0 (Nat.le_refl _) _⟩
end Go.Proofs.YtokcmaehojljdaaDoor
