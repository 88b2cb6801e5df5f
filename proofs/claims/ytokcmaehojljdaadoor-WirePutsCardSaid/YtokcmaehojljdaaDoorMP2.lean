/- One text of several: Contains; Mach; Empty; Chk; WChk; PutPure; SBytes; Hex. -/
import Derived.Test.YtokcmaehojljdaaDoorMP1
import Derived.Deep.RegionHeld
import Derived.OrdersHeld
import Derived.Test.YtokcmaehojljdaaDoorMP0
import Derived.Lib.ItoaLen

/- slices.ContainsFunc over the closure of manifest.Check: is there a text that is no digest's. -/
namespace Go.Proofs.YtokcmaehojljdaaDoor
open Go.RowKit Go.Shelf Go.Proofs.YtokcmaehojljdaaDoorW.PrintWords Go.Proofs.YtokcmaehojljdaaDoorW.PrintLast Go.Proofs.YtokcmaehojljdaaDoorW.PrintMore

theorem ofD_len (s : ByteArray) : (ofD s).length = 32 := by
  unfold ofD
  split
  · exact dgs_len _ _ (Nat.le_refl _)
  · simp
set_option maxHeartbeats 1000000 in
set_option maxRecDepth 100000 in
theorem bad_any (s : ByteArray) (w : World) : Calls Tryd.prog 49 #[.string s] w fun e w' => e = .returned (.bool (!ofOk s)) ∧ Below w.heap.size w w' := by
  go_enter Tryd.func49, Tryd.ntmps49
  go_wp2_with fail
  refine (of_any s _).mono ?_
  rintro e w1 ⟨rfl, hb1⟩
  have hb2 := hb1.alloc hb1.size (.cells (Array.replicate 32 (.int .u8 0)) 26)
  have hR : Row (w1.alloc (.cells (Array.replicate 32 (.int .u8 0)) 26)) w1.heap.size 26 (Array.replicate 32 (.int .u8 0)) := Row.new w1 _ 26
  have hl := ofD_len s
  have hb3 := below_row hb2 hb1.size (Lib.byteCells (ofD s)).toArray
  generalize hok : ofOk s = ok
  go_wp2_with (refine wpList_store_row rfl 26 (.tmp 3) (.tmp 8) rfl w1.heap.size (Lib.byteCells (ofD s)).toArray rfl rfl 26 _ hR (i26 _ hl) (by simp [Lib.byteCells_length, hl]) (byteCells_all _) ?_)
  go_ret
  exact ⟨(show Ending.returned (Value.bool !ok) = _ by rw [hok]), hb3⟩
set_option maxHeartbeats 1000000 in
set_option maxRecDepth 100000 in
theorem index_any (A : Option Addr) (c : Nat) (l : List ByteArray) (w : World) (hC : Kd.C Kd.string w A l.length l) (hn : l.length ≤ 140737488351232) :
    Calls Tryd.prog 68 #[.slice A l.length c, .func (.func 49) #[] #[]] w fun e w' => (∃ r : Int, e = .returned (.int .i64 r) ∧ (0 ≤ r ↔ ∃ s ∈ l, ofOk s = false)) ∧ Below w.heap.size w w' := by
  have hb0 := Below.refl w.heap.size w
  go_enter Tryd.func68, Tryd.ntmps68
  go_wp2_with fail
  go_loopw [8] (fun v8 wr => ∃ i : Nat, i ≤ l.length ∧ v8 = .int .i64 i ∧ Below w.heap.size w wr ∧ ∀ s ∈ l.take i, ofOk s = true) (fun v8 _ => l.length - (intOf v8).toNat)
  case atStart => exact ⟨0, by omega, rfl, hb0, by simp⟩
  case round =>
    clear hb0
    obtain ⟨i, hi, rfl, hb, hgood⟩ := hrel
    by_cases hlt : i < l.length
    · have hd : decide ((i : Int) < l.length) = true := decide_eq_true (by omega)
      obtain ⟨ad, e, hx⟩ := Kd.at_string (Kd.C_below hC hb) (i : Int) (by omega) (by omega)
      cases e
      obtain ⟨s, hs⟩ : ∃ s, l[i]? = some s := ⟨_, List.getElem?_eq_getElem hlt⟩
      have hx' : wr.cell? (ad.add i) = some (.string s) := by
        have e2 : rdOf ByteArray.empty l (i : Int) = s := by simp [rdOf, List.getD_eq_getElem?_getD, hs]
        rw [e2] at hx
        exact hx
      have ht : l.take (i + 1) = l.take i ++ [s] := by rw [List.take_add_one, hs]; rfl
      have hmem : s ∈ l := List.mem_of_getElem? hs
      have p1 : (0 ≤ (i : Int)) = True := eq_true (by omega)
      have q1 : ((i : Int) < l.length) = True := eq_true (by omega)
      clear hx
      go_wp2_with fail
      refine (bad_any s _).mono ?_
      rintro e w1 ⟨rfl, hb1⟩
      replace hb1 := hb.trans (hb1.mono hb.size)
      cases hok : ofOk s with
      | false =>
        go_wp2_with fail
        go_ret
        exact ⟨⟨_, rfl, fun _ => ⟨s, hmem, hok⟩, fun _ => by omega⟩, hb1⟩
      | true =>
        go_wp2_with fail
        go_roundw
        case rel =>
          refine ⟨i + 1, by omega, by go_num, hb1, fun x hx => ?_⟩
          rw [ht] at hx
          rcases List.mem_append.1 hx with hx | hx
          · exact hgood x hx
          · rw [List.mem_singleton.1 hx]; exact hok
        case measure => simp [intOf]; omega
    · have hd : decide ((i : Int) < l.length) = false := decide_eq_false (by omega)
      rw [List.take_of_length_le (by omega)] at hgood
      go_wp2_with fail
      go_ret
      refine ⟨⟨_, rfl, fun h => absurd h (by decide), fun ⟨s, hs, he⟩ => ?_⟩, hb⟩
      rw [hgood s hs] at he; cases he
def anyBad (l : List ByteArray) : Bool := l.any fun s => !ofOk s
theorem anyBad_iff (l : List ByteArray) : anyBad l = true ↔ ∃ s ∈ l, ofOk s = false := by simp [anyBad]
set_option maxRecDepth 100000 in
theorem contains_any (A : Option Addr) (c : Nat) (l : List ByteArray) (w : World) (hC : Kd.C Kd.string w A l.length l) (hn : l.length ≤ 140737488351232) :
    Calls Tryd.prog 48 #[.slice A l.length c, .func (.func 49) #[] #[]] w fun e w' => e = .returned (.bool (anyBad l)) ∧ Below w.heap.size w w' := by
  go_enter Tryd.func48, Tryd.ntmps48
  go_wp2_with fail
  refine (index_any A c l w hC hn).mono ?_
  rintro e w1 ⟨⟨r, rfl, hr⟩, hb1⟩
  have hd : decide (0 ≤ r) = anyBad l := by
    by_cases h : 0 ≤ r
    · rw [decide_eq_true h, eq_comm, anyBad_iff]; exact hr.1 h
    · rw [decide_eq_false h, eq_comm, ← Bool.not_eq_true, anyBad_iff]; exact fun e => h (hr.2 e)
  clear hr
  go_wp2_with fail
  go_ret
  exact ⟨rfl, hb1⟩
end Go.Proofs.YtokcmaehojljdaaDoor

/- manifest.machine: its walk. -/
namespace Go.Proofs.YtokcmaehojljdaaDoor
open Go.RowKit Go.Lib Go.Shelf Go.Proofs.YtokcmaehojljdaaDoorW.PrintWords Go.Proofs.YtokcmaehojljdaaDoorW.PrintLast Go.Proofs.YtokcmaehojljdaaDoorW.PrintMore

/-- A sign that no machine's name has. -/
def otherB (x : Nat) : Bool := (decide ((x : Int) < 97) || decide ((x : Int) > 122)) && (decide ((x : Int) < 48) || decide ((x : Int) > 57)) && ((x : Int) != 46) && ((x : Int) != 45)
set_option maxRecDepth 100000 in
theorem other_any (x : Nat) (w : World) : Calls Tryd.prog 66 #[.int .i32 x] w fun e w' => e = .returned (.bool (otherB x)) ∧ Below w.heap.size w w' := by
  have hb := Below.refl w.heap.size w
  go_enter Tryd.func66, Tryd.ntmps66
  go_wp2_with fail
  all_goals go_ret
  all_goals exact ⟨by simp [otherB, *], hb⟩
def machineB (s : ByteArray) : Bool := (s.toList != []) && decide (s.size ≤ 24) && !(decide (0 ≤ idxFunc otherB true s))
set_option maxRecDepth 100000 in
theorem machine_any (s : ByteArray) (w : World) : Calls Tryd.prog 46 #[.string s] w fun e w' => e = .returned (.bool (machineB s)) ∧ Below w.heap.size w w' := by
  have hb := Below.refl w.heap.size w
  have eg := Sec.mk (enters_of Tryd.func66 (by kernel_rfl) rfl : ∀ args w, (callFunc 66 args).run Tryd.prog w = .ok (.enter 66 args) w)
  have hp := Sec.mk (fun w => Tryd.strings_ContainsFunc_grows 66 #[] eg.out otherB s w (fun W x _ _ => other_any x W))
  have c1 : decide ((s.size : Int) ≤ 24) = decide (s.size ≤ 24) := by simp only [decide_eq_decide]; omega
  clear eg
  go_enter Tryd.func46, Tryd.ntmps46
  go_wp2_with (first | (go_at_call 67; refine (hp.out _).mono ?_; rintro e w' ⟨rfl, hb'⟩))
  all_goals go_ret
  all_goals first | exact ⟨by simp [machineB, *, bne], hb'⟩ | exact ⟨by simp [machineB, *] <;> (cases s.toList <;> rfl), hb'⟩ | exact ⟨by simp [machineB, *], hb⟩
end Go.Proofs.YtokcmaehojljdaaDoor

/- wire.empty: its walk. -/
namespace Go.Proofs.YtokcmaehojljdaaDoor
open Go.RowKit Go.Proofs.YtokcmaehojljdaaDoorW.PrintWords Go.Proofs.YtokcmaehojljdaaDoorW.PrintLast Go.Proofs.YtokcmaehojljdaaDoorW.PrintMore

/-- The nine cells in front. -/
structure SnCells (w : World) (b : Nat) (s : Sn) (v0 v1 v2 : Value) : Prop where
  k0 : w.cell? ⟨b, 0, none⟩ = some (.string s.mach)
  k1 : w.cell? ⟨b, 1, none⟩ = some (.int .i64 s.n)
  k2 : w.cell? ⟨b, 2, none⟩ = some (.int .i64 s.at_)
  k3 : w.cell? ⟨b, 3, none⟩ = some (.int .u64 s.clock)
  k4 : w.cell? ⟨b, 4, none⟩ = some (.int .i64 s.pages)
  k5 : w.cell? ⟨b, 5, none⟩ = some (.int .i64 s.blocks)
  k6 : w.cell? ⟨b, 6, none⟩ = some v0
  k7 : w.cell? ⟨b, 7, none⟩ = some v1
  k8 : w.cell? ⟨b, 8, none⟩ = some v2
theorem sn_cells {w : World} {b : Nat} {s : Sn} {v0 v1 v2 : Value} (h : Row w b 28 (snL s v0 v1 v2).toArray) : SnCells w b s v0 v1 v2 :=
  ⟨h.at_ 0, h.at_ 1, h.at_ 2, h.at_ 3, h.at_ 4, h.at_ 5, h.at_ 6, h.at_ 7, h.at_ 8⟩
def emptyB (s : Sn) : Bool := ((s.l0.length : Int) + s.l1.length + s.l2.length == 0) && (s.mach.toList == []) && (s.n == 0) && (s.at_ == 0) && (s.clock == 0) && (s.pages == 0) && (s.blocks == 0) && (s.sum == List.replicate 32 0)
set_option maxHeartbeats 2000000 in
set_option maxRecDepth 100000 in
theorem empty_any (s : Sn) (v0 v1 v2 : Value) (w : World) (h : SnOk w s v0 v1 v2) :
    Calls Tryd.prog 25 #[.agg (snL s v0 v1 v2).toArray] w fun e w' => e = .returned (.bool (emptyB s)) ∧ Below w.heap.size w w' := by
  obtain ⟨A0, c0, rfl, _, _, n0, _⟩ := h.h0
  obtain ⟨A1, c1, rfl, _, _, n1, _⟩ := h.h1
  obtain ⟨A2, c2, rfl, _, _, n2, _⟩ := h.h2
  have hs := h.hs
  clear h
  have e0 := Sec.mk (fun W => sum_eq W s.sum (List.replicate 32 0) hs (by decide))
  rw [zero_sum] at e0
  have hR := Row.new w (snL s (.slice A0 s.l0.length c0) (.slice A1 s.l1.length c1) (.slice A2 s.l2.length c2)).toArray 28
  have hb0 := (Below.refl w.heap.size w).alloc (Nat.le_refl _) (.cells (snL s (.slice A0 s.l0.length c0) (.slice A1 s.l1.length c1) (.slice A2 s.l2.length c2)).toArray 28)
  go_enter Tryd.func25, Tryd.ntmps25
  go_upto_region 1 with (fail)
  refine wp_abs (fun W HW => ?_)
  rw [← HW.out] at hR hb0
  clear HW
  have hsum := sn_sum hR hs
  obtain ⟨k0, k1, k2, k3, k4, k5, k6, k7, k8⟩ := sn_cells hR
  go_wp2_with (first | refine wpList_load_list rfl 26 (.tmp 51) rfl w.heap.size 9 rfl _ hsum ?_ | refine wpList_value (v := .bool (s.sum == List.replicate 32 0)) rfl (run_exec_eql W rfl rfl rfl (by kernel_rfl) (e0.out W)) ?_)
  all_goals go_ret
  all_goals exact ⟨by simp [emptyB, *], hb0⟩
end Go.Proofs.YtokcmaehojljdaaDoor

/- manifest.Check: its walk. -/
namespace Go.Proofs.YtokcmaehojljdaaDoor
open Go.RowKit Go.Shelf Go.Proofs.YtokcmaehojljdaaDoorW.PrintWords Go.Proofs.YtokcmaehojljdaaDoorW.PrintLast Go.Proofs.YtokcmaehojljdaaDoorW.PrintMore

theorem idx3 (v : Nat → Value) (i : Nat) (hi : i < 3) (W : World) : (Instr.index 24 (.agg #[v 0, v 1, v 2]) (.int .i64 i)).run Tryd.prog W = .ok (v i) W := by
  obtain ⟨j, hj, hs⟩ : ∃ j, Tryd.prog.info? 23 = some j ∧ j.size = 1 := by
    have e : (Tryd.prog.info? 23).map (·.size) = some 1 := by kernel_rfl
    obtain ⟨j, hj, hs⟩ := Option.map_eq_some_iff.1 e
    exact ⟨j, hj, hs⟩
  have h : i = 0 ∨ i = 1 ∨ i = 2 := by omega
  rcases h with rfl | rfl | rfl
  all_goals
    unfold Instr.index
    simp [asIntOf, run_underlying Tryd.underlying24, part, isAgg, run_underlying Tryd.underlying23, Sem.run_bind, sizeOf, typeInfo, hj, hs]
theorem sn_lists {w : World} {b : Nat} {s : Sn} {v0 v1 v2 : Value} (h : Row w b 28 (snL s v0 v1 v2).toArray) : (loadVar 24 ⟨b, 6, none⟩).run Tryd.prog w = .ok (.agg #[v0, v1, v2]) w :=
  run_load_list w b 6 28 24 _ [v0, v1, v2] _ h (fun j v hv => by
    have hj := (List.getElem?_eq_some_iff.1 hv).1
    have h : j = 0 ∨ j = 1 ∨ j = 2 := by simp at hj; omega
    rcases h with rfl | rfl | rfl <;> exact hv) Tryd.underlying24 rfl (by kernel_rfl)
def lst (s : Sn) (i : Nat) : List ByteArray := match i with | 0 => s.l0 | 1 => s.l1 | _ => s.l2
def sumTo (s : Sn) (i : Nat) : Nat := match i with | 0 => 0 | 1 => s.l0.length | 2 => s.l0.length + s.l1.length | _ => s.l0.length + s.l1.length + s.l2.length
theorem sumTo_next (s : Sn) (i : Nat) (h : i < 3) : sumTo s (i + 1) = sumTo s i + (lst s i).length := by
  have h : i = 0 ∨ i = 1 ∨ i = 2 := by omega
  rcases h with rfl | rfl | rfl <;> simp [sumTo, lst]
/-- The lists, each with what its value is. -/
theorem lists_at {w : World} {s : Sn} {v0 v1 v2 : Value} (h : SnOk w s v0 v1 v2) : ∃ (A : Nat → Option Addr) (c : Nat → Nat), v0 = .slice (A 0) (lst s 0).length (c 0) ∧ v1 = .slice (A 1) (lst s 1).length (c 1) ∧ v2 = .slice (A 2) (lst s 2).length (c 2) ∧
    ∀ i, i < 3 → (lst s i).length ≤ c i ∧ Kd.C Kd.string w (A i) (lst s i).length (lst s i) ∧ (lst s i).length ≤ 140737488351232 ∧ ∀ x ∈ lst s i, x.size ≤ 140737488351232 := by
  obtain ⟨A0, c0, rfl, a1, a2, a3, a4⟩ := h.h0
  obtain ⟨A1, c1, rfl, b1, b2, b3, b4⟩ := h.h1
  obtain ⟨A2, c2, rfl, d1, d2, d3, d4⟩ := h.h2
  refine ⟨fun i => match i with | 0 => A0 | 1 => A1 | _ => A2, fun i => match i with | 0 => c0 | 1 => c1 | _ => c2, rfl, rfl, rfl, fun i hi => ?_⟩
  have h : i = 0 ∨ i = 1 ∨ i = 2 := by omega
  rcases h with rfl | rfl | rfl
  · exact ⟨a1, a2, a3, a4⟩
  · exact ⟨b1, b2, b3, b4⟩
  · exact ⟨d1, d2, d3, d4⟩
def inB (n lo hi : Int) : Bool := decide (lo ≤ n) && decide (n ≤ hi)
theorem within_any (a b c : Int) (w : World) : Calls Tryd.prog 47 #[.int .i64 a, .int .i64 b, .int .i64 c] w fun e w' => e = .returned (.bool (inB a b c)) ∧ Drawn0 w w' := by
  unfold inB
  refine PWire.manifest_within.calls a b c _ w ?_
  unfold PWire.manifest_within.f
  by_cases h : b ≤ a
  · rw [if_pos h, decide_eq_true h, Bool.true_and]
  · rw [if_neg h, decide_eq_false h, Bool.false_and]
def rangeB (s : Sn) : Bool := inB s.n 1 100000000 && inB s.at_ 0 1000000000000 && inB s.pages 1 64 && inB s.blocks 1 256
def badS (s : Sn) : Bool := anyBad s.l0 || anyBad s.l1 || anyBad s.l2
def checkSn (s : Sn) : Int := if machineB s.mach = false then 7 else if rangeB s = false then 2 else if 1000 < sumTo s 3 then 6 else if badS s = true then 3 else 0
set_option maxHeartbeats 4000000 in
set_option maxRecDepth 100000 in
theorem check_any (s : Sn) (v0 v1 v2 : Value) (w : World) (h : SnOk w s v0 v1 v2) :
    Calls Tryd.prog 26 #[.agg (snL s v0 v1 v2).toArray] w fun e w' => e = .returned (.int .i64 (checkSn s)) ∧ Below w.heap.size w w' := by
  obtain ⟨A, c, rfl, rfl, rfl, hl⟩ := lists_at h
  clear h
  have hR := Row.new w (snL s (.slice (A 0) (lst s 0).length (c 0)) (.slice (A 1) (lst s 1).length (c 1)) (.slice (A 2) (lst s 2).length (c 2))).toArray 28
  have hb0 := (Below.refl w.heap.size w).alloc (Nat.le_refl _) (.cells (snL s (.slice (A 0) (lst s 0).length (c 0)) (.slice (A 1) (lst s 1).length (c 1)) (.slice (A 2) (lst s 2).length (c 2))).toArray 28)
  have hlt0 : w.heap.size < (w.alloc (.cells (snL s (.slice (A 0) (lst s 0).length (c 0)) (.slice (A 1) (lst s 1).length (c 1)) (.slice (A 2) (lst s 2).length (c 2))).toArray 28)).heap.size := by rw [size_alloc]; omega
  go_enter Tryd.func26, Tryd.ntmps26
  go_upto_region 1 with (fail)
  refine wp_abs (fun W HW => ?_)
  rw [← HW.out] at hR hb0 hlt0
  clear HW
  have hck : checkSn s = if machineB s.mach = false then 7 else if rangeB s = false then 2 else if 1000 < sumTo s 3 then 6 else if badS s = true then 3 else 0 := rfl
  have HK := Sec.mk hck
  clear hck
  obtain ⟨k0, k1, k2, k3, k4, k5, k6, k7, k8⟩ := sn_cells hR
  go_wp2_with fail
  refine (machine_any s.mach _).mono ?_
  rintro e w1 ⟨rfl, hb1⟩
  have hR1 : Row w1 w.heap.size 28 _ := hR.below hb1 hlt0
  replace hb1 := hb0.trans (hb1.mono hb0.size)
  have hlt1 : w.heap.size < w1.heap.size := hR1.lt
  clear hR hb0 hlt0 k0 k1 k2 k3 k4 k5 k6 k7 k8
  generalize hm : machineB s.mach = bm
  cases bm with
  | false =>
    go_wp2_with fail
    go_ret
    exact ⟨by rw [HK.out, if_pos hm]; rfl, hb1⟩
  | true =>
    obtain ⟨k0, k1, k2, k3, k4, k5, k6, k7, k8⟩ := sn_cells hR1
    go_upto_region 3 with (fail)
    have hrb : rangeB s = (inB s.n 1 100000000 && inB s.at_ 0 1000000000000 && inB s.pages 1 64 && inB s.blocks 1 256) := rfl
    generalize e1 : inB s.n 1 100000000 = b1 at hrb
    generalize e2 : inB s.at_ 0 1000000000000 = b2 at hrb
    generalize e3 : inB s.pages 1 64 = b3 at hrb
    generalize e4 : inB s.blocks 1 256 = b4 at hrb
    have HRB := Sec.mk hrb
    have HM := Sec.mk hm
    clear hrb hm
    go_cut [13] (fun v13 wc => v13 = .bool (!(b1 && b2 && b3 && b4)) ∧ Row wc w.heap.size 28 (snL s (.slice (A 0) (lst s 0).length (c 0)) (.slice (A 1) (lst s 1).length (c 1)) (.slice (A 2) (lst s 2).length (c 2))).toArray ∧ Below w.heap.size w wc)
    case first =>
      cases b1 with
      | false =>
        go_wp2_with (go_at_call 47; refine (within_any _ _ _ _).mono ?_; rintro e w' ⟨rfl, ⟨nd, rfl⟩⟩)
        go_meet
        exact ⟨rfl, hR1.drewN _, below_drewN' hb1 _⟩
      | true =>
      cases b2 with
      | false =>
        go_wp2_with (go_at_call 47; refine (within_any _ _ _ _).mono ?_; rintro e w' ⟨rfl, ⟨nd, rfl⟩⟩)
        go_meet
        exact ⟨rfl, hR1.drewN _, below_drewN' hb1 _⟩
      | true =>
      cases b3 with
      | false =>
        go_wp2_with (go_at_call 47; refine (within_any _ _ _ _).mono ?_; rintro e w' ⟨rfl, ⟨nd, rfl⟩⟩)
        go_meet
        exact ⟨rfl, hR1.drewN _, below_drewN' hb1 _⟩
      | true =>
        go_wp2_with (go_at_call 47; refine (within_any _ _ _ _).mono ?_; rintro e w' ⟨rfl, ⟨nd, rfl⟩⟩)
        go_meet
        exact ⟨by simp, hR1.drewN _, below_drewN' hb1 _⟩
    case rest =>
      clear k0 k1 k2 k3 k4 k5 k6 k7 k8 e1 e2 e3 e4 hR1 hb1 hlt1
      obtain ⟨rfl, hR, hb⟩ := hcut
      replace HRB := Sec.mk HRB.out.symm
      generalize (b1 && b2 && b3 && b4) = rb at HRB ⊢
      cases rb with
      | false =>
        go_wp2_with fail
        go_ret
        exact ⟨by rw [HK.out, HM.out, if_neg (by decide), if_pos HRB.out.symm]; rfl, hb⟩
      | true =>
        have hls := sn_lists hR
        go_wp2_with (refine wpList_load_list rfl 24 (.tmp 36) rfl w.heap.size 6 rfl _ hls ?_)
        have hix := idx3 (fun i => .slice (A i) (lst s i).length (c i))
        go_loopw [3, 38] (fun v3 v38 wr => ∃ i : Nat, i ≤ 3 ∧ v38 = .int .i64 i ∧ v3 = .int .i64 (sumTo s i : Nat) ∧ Row wr w.heap.size 28 (snL s (.slice (A 0) (lst s 0).length (c 0)) (.slice (A 1) (lst s 1).length (c 1)) (.slice (A 2) (lst s 2).length (c 2))).toArray ∧ Below w.heap.size w wr) (fun _ v38 _ => 3 - (intOf v38).toNat)
        case atStart => exact ⟨0, by omega, rfl, rfl, hR, hb⟩
        case round =>
          clear hR hb hls
          obtain ⟨i, hi, rfl, rfl, hR, hb⟩ := hrel
          by_cases hlt : i < 3
          · have hd : decide ((i : Int) < 3) = true := decide_eq_true (by omega)
            have hixi := hix i hlt
            have hnx := sumTo_next s i hlt
            have hli := (hl i hlt).2.2.1
            have hs3 : sumTo s i ≤ 422212465065984 := by
              have h := (hl 0 (by omega)).2.2.1
              have h' := (hl 1 (by omega)).2.2.1
              have h'' := (hl 2 (by omega)).2.2.1
              have hc : i = 0 ∨ i = 1 ∨ i = 2 := by omega
              rcases hc with rfl | rfl | rfl <;> simp [sumTo, lst] at * <;> omega
            clear hix
            go_wp2_with fail
            go_roundw
            case rel => exact ⟨i + 1, by omega, by go_num, by rw [hnx]; go_num, hR, hb⟩
            case measure => simp [intOf]; omega
          · have hd : decide ((i : Int) < 3) = false := decide_eq_false (by omega)
            obtain rfl : i = 3 := by omega
            have hrb : ¬ (rangeB s = false) := by rw [← HRB.out]; decide
            have hmb : ¬ (machineB s.mach = false) := by rw [HM.out]; decide
            have HX := Sec.mk (HK.out.trans ((if_neg hmb).trans (if_neg hrb)))
            clear hrb hmb HK HM HRB
            by_cases h1000 : 1000 < sumTo s 3
            · have hd2 : decide ((1000 : Int) < (sumTo s 3 : Nat)) = true := decide_eq_true (by omega)
              have hd3 : (1000 : Int) < (sumTo s 3 : Nat) := by omega
              have HV := Sec.mk (HX.out.trans (if_pos h1000))
              clear HX
              generalize sumTo s 3 = n3 at *
              go_wp2_with fail
              go_ret
              exact ⟨by rw [HV.out]; rfl, hb⟩
            · have hd2 : decide ((1000 : Int) < (sumTo s 3 : Nat)) = false := decide_eq_false (by omega)
              have hd3 : ¬ (1000 : Int) < (sumTo s 3 : Nat) := by omega
              have HV := Sec.mk (HX.out.trans (if_neg h1000))
              clear HX
              generalize sumTo s 3 = n3 at *
              have hls := sn_lists hR
              go_wp2_with (refine wpList_load_list rfl 24 (.tmp 48) rfl w.heap.size 6 rfl _ hls ?_)
              clear hd2 hd3
              go_loopw [50] (fun v50 wr => ∃ i : Nat, i ≤ 3 ∧ v50 = .int .i64 i ∧ Below w.heap.size w wr ∧ ∀ j, j < i → anyBad (lst s j) = false) (fun v50 _ => 3 - (intOf v50).toNat)
              case atStart => exact ⟨0, by omega, rfl, hb, fun j hj => absurd hj (Nat.not_lt_zero _)⟩
              case round =>
                clear hR hb hls
                obtain ⟨i, hi, rfl, hb, hgood⟩ := hrel
                by_cases hlt : i < 3
                · have hd : decide ((i : Int) < 3) = true := decide_eq_true (by omega)
                  have hixi := hix i hlt
                  obtain ⟨hli, hC, hln, _⟩ := hl i hlt
                  have hC' := Kd.C_below hC hb
                  clear hix
                  go_wp2_with fail
                  refine (contains_any (A i) (c i) (lst s i) _ hC' hln).mono ?_
                  rintro e w2 ⟨rfl, hb2⟩
                  replace hb2 := hb.trans (hb2.mono hb.size)
                  cases hbad : anyBad (lst s i) with
                  | true =>
                    have hs : badS s = true := by
                      have hc : i = 0 ∨ i = 1 ∨ i = 2 := by omega
                      unfold badS
                      rcases hc with rfl | rfl | rfl
                      · have h : anyBad s.l0 = true := hbad
                        rw [h]; simp
                      · have h : anyBad s.l1 = true := hbad
                        rw [h]; simp
                      · have h : anyBad s.l2 = true := hbad
                        rw [h]; simp
                    go_wp2_with fail
                    go_ret
                    exact ⟨by rw [HV.out, if_pos hs]; rfl, hb2⟩
                  | false =>
                    go_wp2_with fail
                    go_roundw
                    case rel =>
                      refine ⟨i + 1, by omega, by go_num, hb2, fun j hj => ?_⟩
                      by_cases hji : j = i
                      · rw [hji]; exact hbad
                      · exact hgood j (by omega)
                    case measure => simp [intOf]; omega
                · have hd : decide ((i : Int) < 3) = false := decide_eq_false (by omega)
                  have hs : badS s = false := by
                    have h0 : anyBad s.l0 = false := hgood 0 (by omega)
                    have h1 : anyBad s.l1 = false := hgood 1 (by omega)
                    have h2 : anyBad s.l2 = false := hgood 2 (by omega)
                    unfold badS
                    rw [h0, h1, h2]; rfl
                  go_wp2_with fail
                  go_ret
                  exact ⟨by rw [HV.out, hs]; rfl, hb⟩
end Go.Proofs.YtokcmaehojljdaaDoor

/- wire.Check: its walk. -/
namespace Go.Proofs.YtokcmaehojljdaaDoor
open Go.RowKit Go.Shelf Go.Proofs.YtokcmaehojljdaaDoorW.PrintWords Go.Proofs.YtokcmaehojljdaaDoorW.PrintLast Go.Proofs.YtokcmaehojljdaaDoorW.PrintMore

theorem yi_load_list {P : Program} {ops : Array Oper} {S : World → Prop} {a : Act} {o : Oper} (hw : Region.wanted o (yielded ops a.tmps) = true) (ty : TypeId) (x : Operand) (ho : o.op = .load ty x)
    (b off : Nat) (hx : a.eval x = .pointer (some ⟨b, off, none⟩)) (V : Array Value) (hl : ∀ w, S w → (loadVar ty ⟨b, off, none⟩).run P w = .ok (.agg V) w) : YieldsIf P ops S o (.agg V) a :=
  .inl ⟨hw, fun w hC => by
    unfold execOp
    simp only [ho, hx, Instr.loadAt, Instr.sureAddr, Sem.run_bind, Sem.run_pure, Result.andThen_ok, hl w hC]⟩
theorem ms_cells {w : World} {b : Nat} {m : Ms} {v0 v1 v2 : Value} (h : Row w b 31 (msL m v0 v1 v2).toArray) (hs : m.snap.sum.length = 32) :
    w.cell? ⟨b, 0, none⟩ = some (.int .i64 m.kind) ∧ w.cell? ⟨b, 1, none⟩ = some (.string m.data) ∧ w.cell? ⟨b, 43, none⟩ = some (.int .i64 m.n) ∧ w.cell? ⟨b, 44, none⟩ = some (.int .i64 m.why) := by
  have hl := snL_len (s := m.snap) (v0 := v0) (v1 := v1) (v2 := v2) hs
  refine ⟨h.at_ 0, h.at_ 1, (h.at_ 43).trans ?_, (h.at_ 44).trans ?_⟩
  · rw [msL, List.getElem?_append_right (by simp), List.getElem?_append_right (by simp [hl])]
    simp [hl]
  · rw [msL, List.getElem?_append_right (by simp), List.getElem?_append_right (by simp [hl])]
    simp [hl]
def hasL (r1 r2 r3 r4 : Bool) : List Value := [.bool r1, .bool r2, .bool r3, .bool r4]
def may1 (k : Int) : Bool := (k == 1) || (k == 2)
def okKind (k : Int) : Bool := decide (1 ≤ k) && decide (k ≤ 6)
theorem of_any_kind (k : Int) (w : World) : Calls Tryd.prog 24 #[.int .i64 k] w fun e w' => e = .returned (.tuple #[.agg (hasL (may1 k) (k == 3) (k == 4) (k == 5)).toArray, .bool (okKind k)]) ∧ Below w.heap.size w w' := by
  refine PWire.wire_of.calls 2 k _ _ _ _ _ w ?_
  unfold PWire.wire_of.f
  by_cases h1 : k = 1
  · subst h1; rfl
  by_cases h2 : k = 2
  · subst h2; rfl
  by_cases h3 : k = 3
  · subst h3; rfl
  by_cases h4 : k = 4
  · subst h4; rfl
  by_cases h5 : k = 5
  · subst h5; rfl
  rw [if_neg h1, PWire.wire_of.j0, if_neg (by simp [h2]), if_neg h3, if_neg h4, if_neg h5]
  have e : okKind k = (k == 6) := by
    unfold okKind
    by_cases h6 : k = 6
    · subst h6; rfl
    · rw [beq_eq_false_iff_ne.2 h6, Bool.and_eq_false_iff, decide_eq_false_iff_not, decide_eq_false_iff_not]; omega
  simp [may1, h1, h2, h3, h4, h5, e]
theorem i53 (r1 r2 r3 r4 : Bool) : (Tryd.prog.info? 53).map (·.size) = some (hasL r1 r2 r3 r4).toArray.size := by
  have e : (Tryd.prog.info? 53).map (·.size) = some 4 := by kernel_rfl
  rw [e]; rfl
theorem hasL_all (r1 r2 r3 r4 : Bool) : (hasL r1 r2 r3 r4).toArray.all (·.oneCell') = true := by simp [hasL]; exact ⟨rfl, rfl, rfl, rfl⟩
theorem run_exec_neq {P : Program} {o : Oper} {a : Act} {t : TypeId} {x y : Operand} {ty : TypeId} {xs ys : Array Value} {b : Bool} (w : World) (ho : o.op = .binOp .neq t x y ty) (hx : a.eval x = .agg xs) (hy : a.eval y = .agg ys)
    (hm : P.eqGuardType P.depth t = false) (h : (binOp .neq t (.agg xs) (.agg ys)).run P w = .ok (.bool b) w) : (execOp a.eval o).run P w = .ok (.value (.bool b)) w := by
  unfold execOp
  simp only [ho, hx, hy, Sem.run_bind, run_eqGuard_agg w .neq t x y xs ys hm, Result.andThen_ok, h, Sem.run_pure]
theorem has_neq (a b c d a' b' c' d' : Bool) (W : World) : (binOp .neq 53 (.agg (hasL a b c d).toArray) (.agg (hasL a' b' c' d').toArray)).run Tryd.prog W = .ok (.bool (!((a == a') && (b == b') && (c == c') && (d == d')))) W := by
  have h53 := Tryd.underlying53
  unfold hasL
  go_simp
  by_cases h1 : a = a' <;> by_cases h2 : b = b' <;> by_cases h3 : c = c' <;> by_cases h4 : d = d' <;> simp [h1, h2, h3, h4]
/-- Has a message just what its kind has? -/
def goodHas (m : Ms) : Bool := (((!m.data.toList.isEmpty) && may1 m.kind) == (!m.data.toList.isEmpty)) && (((!emptyB m.snap) && (m.kind == 3)) == (!emptyB m.snap)) && (((m.n != 0) && (m.kind == 4)) == (m.n != 0)) && (((m.why != 0) && (m.kind == 5)) == (m.why != 0))
def checkMs (m : Ms) : Int := if okKind m.kind = false then 11 else if goodHas m = false then 1 else if m.kind = 1 ∧ 65536 < m.data.size then 6 else
  if (m.kind = 2 ∧ (m.data.size < 1 ∨ 100 < m.data.size)) ∨ m.n < 0 ∨ (m.kind = 5 ∧ (m.why < 1 ∨ 23 < m.why)) then 1 else if m.kind = 3 then checkSn m.snap else 0
set_option maxHeartbeats 8000000 in
set_option maxRecDepth 100000 in
theorem wcheck_any (m : Ms) (v0 v1 v2 : Value) (w : World) (h : MsOk w m v0 v1 v2) :
    Calls Tryd.prog 13 #[.agg (msL m v0 v1 v2).toArray] w fun e w' => e = .returned (.int .i64 (checkMs m)) ∧ Below w.heap.size w w' := by
  have hs := h.snap.hs
  have HE := Sec.mk (fun w' (hb : Below w.heap.size w w') => empty_any m.snap v0 v1 v2 w' (h.snap.below hb))
  have hM := Row.new w (msL m v0 v1 v2).toArray 31
  have hb0 := (Below.refl w.heap.size w).alloc (Nat.le_refl _) (.cells (msL m v0 v1 v2).toArray 31)
  have hlt0 : w.heap.size < (w.alloc (.cells (msL m v0 v1 v2).toArray 31)).heap.size := by rw [size_alloc]; omega
  go_enter Tryd.func13, Tryd.ntmps13
  go_upto_region 1 with (fail)
  refine wp_abs (fun W HW => ?_)
  rw [← HW.out] at hM hb0 hlt0
  clear HW
  obtain ⟨k0, k1, k2, k3⟩ := ms_cells hM hs
  go_wp2_with fail
  refine (of_any_kind m.kind _).mono ?_
  rintro e w1 ⟨rfl, hb1⟩
  have hM1 : Row w1 w.heap.size 31 _ := hM.below hb1 hlt0
  replace hb1 := hb0.trans (hb1.mono hb0.size)
  clear hM hb0 k0 k1 k2 k3 hlt0
  have hR : Row (w1.alloc (.cells #[.bool false, .bool false, .bool false, .bool false] 53)) w1.heap.size 53 #[.bool false, .bool false, .bool false, .bool false] := Row.new w1 _ 53
  have hM2 := (hM1.alloc (.cells #[.bool false, .bool false, .bool false, .bool false] 53)).rowOther (by have := hM1.lt; omega : w.heap.size ≠ w1.heap.size) (hasL (may1 m.kind) (m.kind == 3) (m.kind == 4) (m.kind == 5)).toArray
  have hF2 := hR.row (C := (hasL (may1 m.kind) (m.kind == 3) (m.kind == 4) (m.kind == 5)).toArray)
  have hb2 := below_row (hb1.alloc hb1.size (.cells #[.bool false, .bool false, .bool false, .bool false] 53)) hb1.size (hasL (may1 m.kind) (m.kind == 3) (m.kind == 4) (m.kind == 5)).toArray
  have hFw : w.heap.size ≤ w1.heap.size := hb1.size
  generalize hok : okKind m.kind = ok
  generalize e1 : may1 m.kind = r1 at hM2 hF2 hb2 ⊢
  generalize e2 : (m.kind == 3) = r2 at hM2 hF2 hb2 ⊢
  generalize e3 : (m.kind == 4) = r3 at hM2 hF2 hb2 ⊢
  generalize e4 : (m.kind == 5) = r4 at hM2 hF2 hb2 ⊢
  have E1 := Sec.mk e1
  have E2 := Sec.mk e2
  have E3 := Sec.mk e3
  have E4 := Sec.mk e4
  clear e1 e2 e3 e4
  cases ok with
  | false =>
    go_wp2_with (refine wpList_store_row rfl 53 (.tmp 3) (.tmp 10) rfl w1.heap.size (hasL r1 r2 r3 r4).toArray rfl rfl 53 _ hR (i53 _ _ _ _) rfl (hasL_all _ _ _ _) ?_)
    go_ret
    exact ⟨by rw [checkMs, if_pos hok]; rfl, hb2⟩
  | true =>
    go_wp2_with (refine wpList_store_row rfl 53 (.tmp 3) (.tmp 10) rfl w1.heap.size (hasL r1 r2 r3 r4).toArray rfl rfl 53 _ hR (i53 _ _ _ _) rfl (hasL_all _ _ _ _) ?_)
    refine wp_abs (fun W2 HW => ?_)
    rw [← HW.out] at hM2 hF2 hb2
    clear HW hM1 hR hb1
    generalize w1.heap.size = F at *
    obtain ⟨d, hd⟩ : ∃ d, d = !m.data.toList.isEmpty := ⟨_, rfl⟩
    obtain ⟨nn, hnn⟩ : ∃ d, d = (m.n != 0) := ⟨_, rfl⟩
    obtain ⟨yy, hyy⟩ : ∃ d, d = (m.why != 0) := ⟨_, rfl⟩
    have HD := Sec.mk hd
    have HN := Sec.mk hnn
    have HY := Sec.mk hyy
    clear hd hnn hyy
    obtain ⟨em, hem⟩ : ∃ em, em = emptyB m.snap := ⟨_, rfl⟩
    have HM := Sec.mk hem
    clear hem
    go_cut [5] (fun v5 wc => ∃ G, v5 = .pointer (some ⟨G, 0, none⟩) ∧ Row wc G 53 (hasL (d && r1) (!em && r2) (nn && r3) (yy && r4)).toArray ∧ Row wc w.heap.size 31 (msL m v0 v1 v2).toArray ∧ Below w.heap.size w wc)
    case rest =>
      clear hM2 hF2 hb2 hFw W2
      obtain ⟨G, rfl, hG, hM2, hb2⟩ := hcut
      have RM := Sec.mk (fun w' (h : Below wc.heap.size wc w') => hM2.below h hM2.lt)
      have CM := Sec.mk (fun w' (h : Below wc.heap.size wc w') => ms_cells (hM2.below h hM2.lt) hs)
      go_upto_region 5 with (fail)
      obtain ⟨gv, hgv⟩ : ∃ gv, gv = !((d && r1) == d && (!em && r2) == (!em) && (nn && r3) == nn && (yy && r4) == yy) := ⟨_, rfl⟩
      have HGV := Sec.mk hgv
      have hG9 : gv = !goodHas m := by
        rw [hgv, ← E1.out, ← E2.out, ← E3.out, ← E4.out, HD.out, HN.out, HY.out, HM.out]; rfl
      have HG9 := Sec.mk hG9
      clear hgv hG9
      refine wp_region_below wc.heap.size (by kernel_rfl) (by kernel_rfl) ?_
      refine wpQuiet_step (fun K hK => ?_)
      refine wq_load_row rfl 53 (.tmp 5) rfl G rfl 53 (hasL (d && r1) (!em && r2) (nn && r3) (yy && r4)).toArray (0, 0) _ (fun w' h => hG.below h hG.lt) Tryd.underlying53 rfl (i53 _ _ _ _) ?_
      go_simp
      refine hK _ ?_
      clear hK K
      refine wpQuiet_step (fun K hK => ?_)
      refine wq_value (v := .pointer (some ⟨w.heap.size, 1, none⟩)) rfl (fun w' h => by go_simp; try rfl) ?_
      go_simp
      refine hK _ ?_
      clear hK K
      refine wpQuiet_step (fun K hK => ?_)
      refine wq_value (v := .string m.data) rfl (fun w' h => by have c := (CM.out w' h).2.1; go_simp; try rfl) ?_
      go_simp
      refine hK _ ?_
      clear hK K
      refine wpQuiet_step (fun K hK => ?_)
      refine wq_value (v := .bool d) rfl (fun w' h => by have e := HD.out; go_simp; try first | rfl | (rw [e]; done) | (rw [e]; rfl) | (simp [e]; done)) ?_
      go_simp
      refine hK _ ?_
      clear hK K
      refine wpQuiet_step (fun K hK => ?_)
      refine wq_value (v := .pointer (some ⟨w.heap.size, 2, none⟩)) rfl (fun w' h => by go_simp; try rfl) ?_
      go_simp
      refine hK _ ?_
      clear hK K
      refine wpQuiet_step (fun K hK => ?_)
      refine wq_load_list rfl 28 (.tmp 48) rfl w.heap.size 2 rfl _ (fun w' h => ms_snap (RM.out w' h) hs) ?_
      go_simp
      refine hK _ ?_
      clear hK K
      refine wpQuiet_step (fun K hK => ?_)
      refine wq_call (v := .bool em) (f := 25) (args := #[.agg (snL m.snap v0 v1 v2).toArray]) rfl (fun _ _ => by go_simp) (fun w' hC => (HE.out w' (hb2.trans (hC.mono hb2.size))).mono (fun e w'' ⟨h1, h2⟩ => ⟨by rw [h1, ← HM.out], hC.trans (h2.mono hC.size)⟩)) ?_
      go_simp
      refine hK _ ?_
      clear hK K
      refine wpQuiet_step (fun K hK => ?_)
      refine wq_value (v := .bool !em) rfl (fun w' h => by go_simp; try rfl) ?_
      go_simp
      refine hK _ ?_
      clear hK K
      refine wpQuiet_step (fun K hK => ?_)
      refine wq_value (v := .pointer (some ⟨w.heap.size, 43, none⟩)) rfl (fun w' h => by go_simp; try rfl) ?_
      go_simp
      refine hK _ ?_
      clear hK K
      refine wpQuiet_step (fun K hK => ?_)
      refine wq_value (v := .int .i64 m.n) rfl (fun w' h => by have c := (CM.out w' h).2.2.1; go_simp; try rfl) ?_
      go_simp
      refine hK _ ?_
      clear hK K
      refine wpQuiet_step (fun K hK => ?_)
      refine wq_value (v := .bool nn) rfl (fun w' h => by have e := HN.out; go_simp; try first | rfl | (rw [e]; done) | (rw [e]; rfl) | (simp [e]; done)) ?_
      go_simp
      refine hK _ ?_
      clear hK K
      refine wpQuiet_step (fun K hK => ?_)
      refine wq_value (v := .pointer (some ⟨w.heap.size, 44, none⟩)) rfl (fun w' h => by go_simp; try rfl) ?_
      go_simp
      refine hK _ ?_
      clear hK K
      refine wpQuiet_step (fun K hK => ?_)
      refine wq_value (v := .int .i64 m.why) rfl (fun w' h => by have c := (CM.out w' h).2.2.2; go_simp; try rfl) ?_
      go_simp
      refine hK _ ?_
      clear hK K
      refine wpQuiet_step (fun K hK => ?_)
      refine wq_value (v := .bool yy) rfl (fun w' h => by have e := HY.out; go_simp; try first | rfl | (rw [e]; done) | (rw [e]; rfl) | (simp [e]; done)) ?_
      go_simp
      refine hK _ ?_
      clear hK K
      refine wpQuiet_step (fun K hK => ?_)
      refine wq_value (v := .agg (hasL d (!em) nn yy).toArray) rfl (fun w' h => by go_simp; try rfl) ?_
      go_simp
      refine hK _ ?_
      clear hK K
      refine wpQuiet_step (fun K hK => ?_)
      refine wq_value (v := .bool gv) rfl (fun w' h => run_exec_neq w' rfl rfl rfl (by kernel_rfl) (by rw [HGV.out]; exact has_neq _ _ _ _ _ _ _ _ w')) ?_
      go_simp
      refine hK _ ?_
      clear hK K
      refine wpQuiet_nil ?_
      go_simp
      intro w5 hb5
      rw [HG9.out]
      have hck : checkMs m = if goodHas m = false then 1 else if m.kind = 1 ∧ 65536 < m.data.size then 6 else
        if (m.kind = 2 ∧ (m.data.size < 1 ∨ 100 < m.data.size)) ∨ m.n < 0 ∨ (m.kind = 5 ∧ (m.why < 1 ∨ 23 < m.why)) then 1 else if m.kind = 3 then checkSn m.snap else 0 := by
        rw [checkMs, if_neg (by rw [hok]; decide)]
      have HC := Sec.mk hck
      clear hck
      have hM5 := RM.out _ hb5
      have hb5' := hb2.trans (hb5.mono hb2.size)
      have h5 := h.snap.below hb5'
      clear RM CM hM2 hb2 hb5 HD HN HY HM E1 E2 E3 E4 HE HGV HG9
      have hkr : 1 ≤ m.kind ∧ m.kind ≤ 6 := by
        rw [okKind, Bool.and_eq_true, decide_eq_true_eq, decide_eq_true_eq] at hok
        exact hok
      clear hok
      generalize goodHas m = gh at HC ⊢
      cases gh with
      | false =>
        go_wp2_with fail
        go_ret
        exact ⟨by rw [HC.out]; rfl, hb5'⟩
      | true =>
        obtain ⟨k0, k1, k2, k3⟩ := ms_cells hM5 hs
        have hsn := Sec.mk (ms_snap hM5 hs)
        have HV := Sec.mk (HC.out.trans (if_neg (by decide)))
        clear HC hM5
        have H5 := Sec.mk h5
        clear h5 h hs
        have hkc : m.kind = 1 ∨ m.kind = 2 ∨ m.kind = 3 ∨ m.kind = 4 ∨ m.kind = 5 ∨ m.kind = 6 := by omega
        clear hkr
        have HB5 := Sec.mk hb5'
        clear hb5'
        rcases hkc with hk | hk | hk | hk | hk | hk
        · rw [hk] at k0
          have HK := Sec.mk hk
          clear hk
          by_cases c1 : (65536 : Int) < m.data.size
          · 
            have C1 := Sec.mk c1
            have d1 : decide ((65536 : Int) < m.data.size) = true := decide_eq_true c1
            have e1 : decide (65536 < m.data.size) = true := decide_eq_true (by omega)
            clear c1
            as_aux_lemma =>
              go_wp2_with fail
              go_ret
              exact ⟨by rw [HV.out, if_pos (by have := HK.out; have := C1.out; omega)]; rfl, HB5.out⟩
          · 
            have C1 := Sec.mk c1
            have d1 : decide ((65536 : Int) < m.data.size) = false := decide_eq_false c1
            have e1 : decide (65536 < m.data.size) = false := decide_eq_false (by omega)
            clear c1
            by_cases c2 : m.n < 0
            · 
              have C2 := Sec.mk c2
              have d2 : decide (m.n < 0) = true := decide_eq_true c2
              clear c2
              as_aux_lemma =>
                go_wp2_with fail
                go_ret
                exact ⟨by rw [HV.out, if_neg (by have := HK.out; have := C1.out; have := C2.out; omega), if_pos (by have := HK.out; have := C1.out; have := C2.out; omega)]; rfl, HB5.out⟩
            · 
              have C2 := Sec.mk c2
              have d2 : decide (m.n < 0) = false := decide_eq_false c2
              clear c2
              as_aux_lemma =>
                go_wp2_with fail
                go_ret
                exact ⟨by rw [HV.out, if_neg (by have := HK.out; have := C1.out; have := C2.out; omega), if_neg (by have := HK.out; have := C1.out; have := C2.out; omega), if_neg (by have := HK.out; have := C1.out; have := C2.out; omega)]; rfl, HB5.out⟩
        · rw [hk] at k0
          have HK := Sec.mk hk
          clear hk
          by_cases c3 : (m.data.size : Int) < 1
          · 
            have C3 := Sec.mk c3
            have d3 : decide ((m.data.size : Int) < 1) = true := decide_eq_true c3
            have e3 : decide (m.data.size < 1) = true := decide_eq_true (by omega)
            clear c3
            as_aux_lemma =>
              go_wp2_with fail
              go_ret
              exact ⟨by rw [HV.out, if_neg (by have := HK.out; have := C3.out; omega), if_pos (by have := HK.out; have := C3.out; omega)]; rfl, HB5.out⟩
          · 
            have C3 := Sec.mk c3
            have d3 : decide ((m.data.size : Int) < 1) = false := decide_eq_false c3
            have e3 : decide (m.data.size < 1) = false := decide_eq_false (by omega)
            clear c3
            by_cases c4 : (100 : Int) < m.data.size
            · 
              have C4 := Sec.mk c4
              have d4 : decide ((100 : Int) < m.data.size) = true := decide_eq_true c4
              have e4 : decide (100 < m.data.size) = true := decide_eq_true (by omega)
              clear c4
              as_aux_lemma =>
                go_wp2_with fail
                go_ret
                exact ⟨by rw [HV.out, if_neg (by have := HK.out; have := C3.out; have := C4.out; omega), if_pos (by have := HK.out; have := C3.out; have := C4.out; omega)]; rfl, HB5.out⟩
            · 
              have C4 := Sec.mk c4
              have d4 : decide ((100 : Int) < m.data.size) = false := decide_eq_false c4
              have e4 : decide (100 < m.data.size) = false := decide_eq_false (by omega)
              clear c4
              by_cases c2 : m.n < 0
              · 
                have C2 := Sec.mk c2
                have d2 : decide (m.n < 0) = true := decide_eq_true c2
                clear c2
                as_aux_lemma =>
                  go_wp2_with fail
                  go_ret
                  exact ⟨by rw [HV.out, if_neg (by have := HK.out; have := C3.out; have := C4.out; have := C2.out; omega), if_pos (by have := HK.out; have := C3.out; have := C4.out; have := C2.out; omega)]; rfl, HB5.out⟩
              · 
                have C2 := Sec.mk c2
                have d2 : decide (m.n < 0) = false := decide_eq_false c2
                clear c2
                as_aux_lemma =>
                  go_wp2_with fail
                  go_ret
                  exact ⟨by rw [HV.out, if_neg (by have := HK.out; have := C3.out; have := C4.out; have := C2.out; omega), if_neg (by have := HK.out; have := C3.out; have := C4.out; have := C2.out; omega), if_neg (by have := HK.out; have := C3.out; have := C4.out; have := C2.out; omega)]; rfl, HB5.out⟩
        · rw [hk] at k0
          have HK := Sec.mk hk
          clear hk
          by_cases c2 : m.n < 0
          · 
            have C2 := Sec.mk c2
            have d2 : decide (m.n < 0) = true := decide_eq_true c2
            clear c2
            as_aux_lemma =>
              go_wp2_with fail
              go_ret
              exact ⟨by rw [HV.out, if_neg (by have := HK.out; have := C2.out; omega), if_pos (by have := HK.out; have := C2.out; omega)]; rfl, HB5.out⟩
          · 
            have C2 := Sec.mk c2
            have d2 : decide (m.n < 0) = false := decide_eq_false c2
            clear c2
            as_aux_lemma =>
              go_upto_region 14 with (fail)
              have hsn2 := hsn.out
              go_wp2_with (refine wpList_load_list rfl 28 (.tmp 106) rfl w.heap.size 2 rfl _ hsn2 ?_)
              refine (check_any m.snap v0 v1 v2 _ H5.out).mono ?_
              rintro e w6 ⟨rfl, hb6⟩
              have hb7 := HB5.out.trans (hb6.mono HB5.out.size)
              have hz : checkMs m = checkSn m.snap := by rw [HV.out, if_neg (by have := HK.out; have := C2.out; omega), if_neg (by have := HK.out; have := C2.out; omega), if_pos HK.out]
              have HZ := Sec.mk hz
              clear hz
              generalize checkSn m.snap = z at HZ ⊢
              go_wp2_with fail
              go_ret
              exact ⟨by rw [HZ.out]; rfl, hb7⟩
        · rw [hk] at k0
          have HK := Sec.mk hk
          clear hk
          by_cases c2 : m.n < 0
          · 
            have C2 := Sec.mk c2
            have d2 : decide (m.n < 0) = true := decide_eq_true c2
            clear c2
            as_aux_lemma =>
              go_wp2_with fail
              go_ret
              exact ⟨by rw [HV.out, if_neg (by have := HK.out; have := C2.out; omega), if_pos (by have := HK.out; have := C2.out; omega)]; rfl, HB5.out⟩
          · 
            have C2 := Sec.mk c2
            have d2 : decide (m.n < 0) = false := decide_eq_false c2
            clear c2
            as_aux_lemma =>
              go_wp2_with fail
              go_ret
              exact ⟨by rw [HV.out, if_neg (by have := HK.out; have := C2.out; omega), if_neg (by have := HK.out; have := C2.out; omega), if_neg (by have := HK.out; have := C2.out; omega)]; rfl, HB5.out⟩
        · rw [hk] at k0
          have HK := Sec.mk hk
          clear hk
          by_cases c2 : m.n < 0
          · 
            have C2 := Sec.mk c2
            have d2 : decide (m.n < 0) = true := decide_eq_true c2
            clear c2
            as_aux_lemma =>
              go_wp2_with fail
              go_ret
              exact ⟨by rw [HV.out, if_neg (by have := HK.out; have := C2.out; omega), if_pos (by have := HK.out; have := C2.out; omega)]; rfl, HB5.out⟩
          · 
            have C2 := Sec.mk c2
            have d2 : decide (m.n < 0) = false := decide_eq_false c2
            clear c2
            by_cases c5 : m.why < 1
            · 
              have C5 := Sec.mk c5
              have d5 : decide (m.why < 1) = true := decide_eq_true c5
              clear c5
              as_aux_lemma =>
                go_wp2_with fail
                go_ret
                exact ⟨by rw [HV.out, if_neg (by have := HK.out; have := C2.out; have := C5.out; omega), if_pos (by have := HK.out; have := C2.out; have := C5.out; omega)]; rfl, HB5.out⟩
            · 
              have C5 := Sec.mk c5
              have d5 : decide (m.why < 1) = false := decide_eq_false c5
              clear c5
              by_cases c6 : 23 < m.why
              · 
                have C6 := Sec.mk c6
                have d6 : decide (23 < m.why) = true := decide_eq_true c6
                clear c6
                as_aux_lemma =>
                  go_wp2_with fail
                  go_ret
                  exact ⟨by rw [HV.out, if_neg (by have := HK.out; have := C2.out; have := C5.out; have := C6.out; omega), if_pos (by have := HK.out; have := C2.out; have := C5.out; have := C6.out; omega)]; rfl, HB5.out⟩
              · 
                have C6 := Sec.mk c6
                have d6 : decide (23 < m.why) = false := decide_eq_false c6
                clear c6
                as_aux_lemma =>
                  go_wp2_with fail
                  go_ret
                  exact ⟨by rw [HV.out, if_neg (by have := HK.out; have := C2.out; have := C5.out; have := C6.out; omega), if_neg (by have := HK.out; have := C2.out; have := C5.out; have := C6.out; omega), if_neg (by have := HK.out; have := C2.out; have := C5.out; have := C6.out; omega)]; rfl, HB5.out⟩
        · rw [hk] at k0
          have HK := Sec.mk hk
          clear hk
          by_cases c2 : m.n < 0
          · 
            have C2 := Sec.mk c2
            have d2 : decide (m.n < 0) = true := decide_eq_true c2
            clear c2
            as_aux_lemma =>
              go_wp2_with fail
              go_ret
              exact ⟨by rw [HV.out, if_neg (by have := HK.out; have := C2.out; omega), if_pos (by have := HK.out; have := C2.out; omega)]; rfl, HB5.out⟩
          · 
            have C2 := Sec.mk c2
            have d2 : decide (m.n < 0) = false := decide_eq_false c2
            clear c2
            as_aux_lemma =>
              go_wp2_with fail
              go_ret
              exact ⟨by rw [HV.out, if_neg (by have := HK.out; have := C2.out; omega), if_neg (by have := HK.out; have := C2.out; omega), if_neg (by have := HK.out; have := C2.out; omega)]; rfl, HB5.out⟩
    rename_i J K' hJ hMet
    obtain ⟨D, hD⟩ : ∃ D, D = W2.drew := ⟨_, rfl⟩
    have hMd : Row W2.drew w.heap.size 31 (msL m v0 v1 v2).toArray := hM2
    have hFd : Row W2.drew F 53 (hasL r1 r2 r3 r4).toArray := hF2
    have hbd : Below w.heap.size w W2.drew := hb2.drew
    rw [← hD] at hMd hFd hbd
    refine wp_region_held_drew (S := Below D.heap.size D) (by kernel_rfl) (by rw [← hD]; exact Below.refl _ _) (fun hS => ?_)
    rw [← hD] at hS ⊢
    clear hD hM2 hF2 hb2 W2
    have RM := Sec.mk (fun w' (h : Below D.heap.size D w') => hMd.below h hMd.lt)
    have RF := Sec.mk (fun w' (h : Below D.heap.size D w') => hFd.below h hFd.lt)
    have CM := Sec.mk (fun w' (h : Below D.heap.size D w') => ms_cells (hMd.below h hMd.lt) hs)
    refine wpAnyH_take (i := 0) (v := .pointer (some ⟨w.heap.size, 1, none⟩)) rfl (by kernel_rfl) (by kernel_rfl) (by kernel_rfl) (fun _ _ _ h => h) (Or.inl ⟨rfl, fun w' h => by go_simp; try rfl⟩) hS ?_
    go_simp
    refine wpAnyH_take (i := 1) (v := .string m.data) rfl (by kernel_rfl) (by kernel_rfl) (by kernel_rfl) (fun _ _ _ h => h) (Or.inl ⟨rfl, fun w' h => by have c := (CM.out w' h).2.1; go_simp; try rfl⟩) hS ?_
    go_simp
    refine wpAnyH_take (i := 2) (v := .bool d) rfl (by kernel_rfl) (by kernel_rfl) (by kernel_rfl) (fun _ _ _ h => h) (Or.inl ⟨rfl, fun w' h => by have e := HD.out; go_simp; try first | rfl | (rw [e]; done) | (rw [e]; rfl) | (simp [e]; done)⟩) hS ?_
    go_simp
    refine wpAnyH_take (i := 3) (v := .bool d) rfl (by kernel_rfl) (by kernel_rfl) (by kernel_rfl) (fun _ _ _ h => h) (Or.inl ⟨rfl, fun w' h => by go_simp; try rfl⟩) hS ?_
    go_simp
    refine wpAnyH_take (i := 4) (v := bif d then .pointer (some ⟨F, 0, none⟩) else undef) rfl (by kernel_rfl) (by kernel_rfl) (by kernel_rfl) (fun _ _ _ h => h) (by cases d <;> first | exact Or.inr ⟨rfl, rfl⟩ | exact Or.inl ⟨rfl, fun w' h => by  go_simp; try rfl⟩) hS ?_
    go_simp
    refine wpAnyH_take (i := 5) (v := bif d then .bool r1 else undef) rfl (by kernel_rfl) (by kernel_rfl) (by kernel_rfl) (fun _ _ _ h => h) (by cases d <;> first | exact Or.inr ⟨rfl, rfl⟩ | exact Or.inl ⟨rfl, fun w' h => by have c : w'.cell? ⟨F, 0, none⟩ = some (.bool r1) := (RF.out w' h).at_ 0; go_simp; try rfl⟩) hS ?_
    go_simp
    refine wpAnyH_take (i := 6) (v := .bool (d && r1)) rfl (by kernel_rfl) (by kernel_rfl) (by kernel_rfl) (fun _ _ _ h => h) (by cases d <;> exact Or.inl ⟨rfl, fun w' h => by go_simp; try rfl⟩) hS ?_
    go_simp
    refine wpAnyH_take (i := 7) (v := .pointer (some ⟨w.heap.size, 2, none⟩)) rfl (by kernel_rfl) (by kernel_rfl) (by kernel_rfl) (fun _ _ _ h => h) (Or.inl ⟨rfl, fun w' h => by go_simp; try rfl⟩) hS ?_
    go_simp
    refine wpAnyH_take (i := 8) (v := .agg (snL m.snap v0 v1 v2).toArray) rfl (by kernel_rfl) (by kernel_rfl) (by kernel_rfl) (fun _ _ _ h => h) (yi_load_list rfl 28 (.tmp 21) rfl w.heap.size 2 rfl _ (fun w' h => ms_snap (RM.out w' h) hs)) hS ?_
    go_simp
    refine wpAnyH_take (i := 15) (v := .pointer (some ⟨w.heap.size, 43, none⟩)) rfl (by kernel_rfl) (by kernel_rfl) (by kernel_rfl) (fun _ _ _ h => h) (Or.inl ⟨rfl, fun w' h => by go_simp; try rfl⟩) hS ?_
    go_simp
    refine wpAnyH_take (i := 16) (v := .int .i64 m.n) rfl (by kernel_rfl) (by kernel_rfl) (by kernel_rfl) (fun _ _ _ h => h) (Or.inl ⟨rfl, fun w' h => by have c := (CM.out w' h).2.2.1; go_simp; try rfl⟩) hS ?_
    go_simp
    refine wpAnyH_take (i := 17) (v := .bool nn) rfl (by kernel_rfl) (by kernel_rfl) (by kernel_rfl) (fun _ _ _ h => h) (Or.inl ⟨rfl, fun w' h => by have e := HN.out; go_simp; try first | rfl | (rw [e]; done) | (rw [e]; rfl) | (simp [e]; done)⟩) hS ?_
    go_simp
    refine wpAnyH_take (i := 22) (v := .pointer (some ⟨w.heap.size, 44, none⟩)) rfl (by kernel_rfl) (by kernel_rfl) (by kernel_rfl) (fun _ _ _ h => h) (Or.inl ⟨rfl, fun w' h => by go_simp; try rfl⟩) hS ?_
    go_simp
    refine wpAnyH_take (i := 23) (v := .int .i64 m.why) rfl (by kernel_rfl) (by kernel_rfl) (by kernel_rfl) (fun _ _ _ h => h) (Or.inl ⟨rfl, fun w' h => by have c := (CM.out w' h).2.2.2; go_simp; try rfl⟩) hS ?_
    go_simp
    refine wpAnyH_take (i := 24) (v := .bool yy) rfl (by kernel_rfl) (by kernel_rfl) (by kernel_rfl) (fun _ _ _ h => h) (Or.inl ⟨rfl, fun w' h => by have e := HY.out; go_simp; try first | rfl | (rw [e]; done) | (rw [e]; rfl) | (simp [e]; done)⟩) hS ?_
    go_simp
    refine wpAnyH_ready (rs := [9, 30]) (by kernel_rfl) (by simp) (AllReadyH.cons (o := _) rfl (fun K hK => ?_) (AllReadyH.cons (o := _) rfl (fun K hK => ?_) AllReadyH.nil))
    · go_simp
      refine (HE.out _ hbd).mono ?_
      rintro e w3 ⟨rfl, hb3⟩
      refine hK.out _ _ (hS.trans (hb3.mono hS.size)) (fun hS => ?_)
      clear hK K hb3
      rw [← HM.out]
      go_simp
      refine wpAnyH_take (i := 10) (v := .bool !em) rfl (by kernel_rfl) (by kernel_rfl) (by kernel_rfl) (fun _ _ _ h => h) (Or.inl ⟨rfl, fun w' h => by go_simp; try rfl⟩) hS ?_
      go_simp
      refine wpAnyH_take (i := 11) (v := .bool !em) rfl (by kernel_rfl) (by kernel_rfl) (by kernel_rfl) (fun _ _ _ h => h) (Or.inl ⟨rfl, fun w' h => by go_simp; try rfl⟩) hS ?_
      go_simp
      refine wpAnyH_take (i := 12) (v := bif !em then .pointer (some ⟨F, 1, none⟩) else undef) rfl (by kernel_rfl) (by kernel_rfl) (by kernel_rfl) (fun _ _ _ h => h) (by cases em <;> first | exact Or.inr ⟨rfl, rfl⟩ | exact Or.inl ⟨rfl, fun w' h => by  go_simp; try rfl⟩) hS ?_
      go_simp
      refine wpAnyH_take (i := 13) (v := bif !em then .bool r2 else undef) rfl (by kernel_rfl) (by kernel_rfl) (by kernel_rfl) (fun _ _ _ h => h) (by cases em <;> first | exact Or.inr ⟨rfl, rfl⟩ | exact Or.inl ⟨rfl, fun w' h => by have c : w'.cell? ⟨F, 1, none⟩ = some (.bool r2) := (RF.out w' h).at_ 1; go_simp; try rfl⟩) hS ?_
      go_simp
      refine wpAnyH_take (i := 14) (v := .bool (!em && r2)) rfl (by kernel_rfl) (by kernel_rfl) (by kernel_rfl) (fun _ _ _ h => h) (by cases em <;> exact Or.inl ⟨rfl, fun w' h => by go_simp; try rfl⟩) hS ?_
      go_simp
      refine wpAnyH_take (i := 18) (v := .bool nn) rfl (by kernel_rfl) (by kernel_rfl) (by kernel_rfl) (fun _ _ _ h => h) (Or.inl ⟨rfl, fun w' h => by go_simp; try rfl⟩) hS ?_
      go_simp
      refine wpAnyH_take (i := 19) (v := bif nn then .pointer (some ⟨F, 2, none⟩) else undef) rfl (by kernel_rfl) (by kernel_rfl) (by kernel_rfl) (fun _ _ _ h => h) (by cases nn <;> first | exact Or.inr ⟨rfl, rfl⟩ | exact Or.inl ⟨rfl, fun w' h => by  go_simp; try rfl⟩) hS ?_
      go_simp
      refine wpAnyH_take (i := 20) (v := bif nn then .bool r3 else undef) rfl (by kernel_rfl) (by kernel_rfl) (by kernel_rfl) (fun _ _ _ h => h) (by cases nn <;> first | exact Or.inr ⟨rfl, rfl⟩ | exact Or.inl ⟨rfl, fun w' h => by have c : w'.cell? ⟨F, 2, none⟩ = some (.bool r3) := (RF.out w' h).at_ 2; go_simp; try rfl⟩) hS ?_
      go_simp
      refine wpAnyH_take (i := 21) (v := .bool (nn && r3)) rfl (by kernel_rfl) (by kernel_rfl) (by kernel_rfl) (fun _ _ _ h => h) (by cases nn <;> exact Or.inl ⟨rfl, fun w' h => by go_simp; try rfl⟩) hS ?_
      go_simp
      refine wpAnyH_take (i := 25) (v := .bool yy) rfl (by kernel_rfl) (by kernel_rfl) (by kernel_rfl) (fun _ _ _ h => h) (Or.inl ⟨rfl, fun w' h => by go_simp; try rfl⟩) hS ?_
      go_simp
      refine wpAnyH_take (i := 26) (v := bif yy then .pointer (some ⟨F, 3, none⟩) else undef) rfl (by kernel_rfl) (by kernel_rfl) (by kernel_rfl) (fun _ _ _ h => h) (by cases yy <;> first | exact Or.inr ⟨rfl, rfl⟩ | exact Or.inl ⟨rfl, fun w' h => by  go_simp; try rfl⟩) hS ?_
      go_simp
      refine wpAnyH_take (i := 27) (v := bif yy then .bool r4 else undef) rfl (by kernel_rfl) (by kernel_rfl) (by kernel_rfl) (fun _ _ _ h => h) (by cases yy <;> first | exact Or.inr ⟨rfl, rfl⟩ | exact Or.inl ⟨rfl, fun w' h => by have c : w'.cell? ⟨F, 3, none⟩ = some (.bool r4) := (RF.out w' h).at_ 3; go_simp; try rfl⟩) hS ?_
      go_simp
      refine wpAnyH_take (i := 28) (v := .bool (yy && r4)) rfl (by kernel_rfl) (by kernel_rfl) (by kernel_rfl) (fun _ _ _ h => h) (by cases yy <;> exact Or.inl ⟨rfl, fun w' h => by go_simp; try rfl⟩) hS ?_
      go_simp
      refine wpAnyH_take (i := 29) (v := .agg (hasL (d && r1) (!em && r2) (nn && r3) (yy && r4)).toArray) rfl (by kernel_rfl) (by kernel_rfl) (by kernel_rfl) (fun _ _ _ h => h) (Or.inl ⟨rfl, fun w' h => by go_simp; try rfl⟩) hS ?_
      go_simp
      refine wpAnyH_ready (rs := [30]) (by kernel_rfl) (by simp) (AllReadyH.cons (o := _) rfl (fun K hK => ?_) AllReadyH.nil)
      go_simp
      have hG3 : Row (w3.alloc (.cells #[.bool false, .bool false, .bool false, .bool false] 53)) w3.heap.size 53 #[.bool false, .bool false, .bool false, .bool false] := Row.new w3 _ 53
      have hGs := hS.size
      refine hK.out _ _ (hS.alloc hS.size _) (fun hS => ?_)
      clear hK K
      go_simp
      refine wpAnyH_ready (rs := [31]) (by kernel_rfl) (by simp) (AllReadyH.cons (o := _) rfl (fun K hK => ?_) AllReadyH.nil)
      refine wp_store_row 53 (.tmp 5) (.tmp 43) rfl w3.heap.size (hasL (d && r1) (!em && r2) (nn && r3) (yy && r4)).toArray rfl rfl 53 _ hG3 (i53 _ _ _ _) rfl (hasL_all _ _ _ _) ?_
      refine hK.out _ _ (below_row hS hGs _) (fun hS => ?_)
      clear hK K
      go_simp
      refine wpAnyH_done (by kernel_rfl) ?_ _
      refine hMet _ _ (Met.intro (hJ _ _ ?_))
      (repeat apply Exists.intro)
      refine ⟨?_, rfl⟩
      exact ⟨w3.heap.size, rfl, hG3.row, RM.out _ hS, hbd.trans (hS.mono hbd.size)⟩
    · go_simp
      refine hK.out _ _ ((Below.refl _ _).alloc (Nat.le_refl _) _) (fun hS => ?_)
      clear hK K
      have hG : Row (D.alloc (.cells #[.bool false, .bool false, .bool false, .bool false] 53)) D.heap.size 53 #[.bool false, .bool false, .bool false, .bool false] := Row.new D _ 53
      have hbA := hbd.alloc hbd.size (.cells #[.bool false, .bool false, .bool false, .bool false] 53)
      refine wpAnyH_ready (rs := [9]) (by kernel_rfl) (by simp) (AllReadyH.cons (o := _) rfl (fun K hK => ?_) AllReadyH.nil)
      go_simp
      refine (HE.out _ hbA).mono ?_
      rintro e w3 ⟨rfl, hb3⟩
      have hG3 := hG.below hb3 hG.lt
      refine hK.out _ _ (hS.trans (hb3.mono hS.size)) (fun hS => ?_)
      clear hK K hb3 hG hbA
      rw [← HM.out]
      go_simp
      refine wpAnyH_take (i := 10) (v := .bool !em) rfl (by kernel_rfl) (by kernel_rfl) (by kernel_rfl) (fun _ _ _ h => h) (Or.inl ⟨rfl, fun w' h => by go_simp; try rfl⟩) hS ?_
      go_simp
      refine wpAnyH_take (i := 11) (v := .bool !em) rfl (by kernel_rfl) (by kernel_rfl) (by kernel_rfl) (fun _ _ _ h => h) (Or.inl ⟨rfl, fun w' h => by go_simp; try rfl⟩) hS ?_
      go_simp
      refine wpAnyH_take (i := 12) (v := bif !em then .pointer (some ⟨F, 1, none⟩) else undef) rfl (by kernel_rfl) (by kernel_rfl) (by kernel_rfl) (fun _ _ _ h => h) (by cases em <;> first | exact Or.inr ⟨rfl, rfl⟩ | exact Or.inl ⟨rfl, fun w' h => by  go_simp; try rfl⟩) hS ?_
      go_simp
      refine wpAnyH_take (i := 13) (v := bif !em then .bool r2 else undef) rfl (by kernel_rfl) (by kernel_rfl) (by kernel_rfl) (fun _ _ _ h => h) (by cases em <;> first | exact Or.inr ⟨rfl, rfl⟩ | exact Or.inl ⟨rfl, fun w' h => by have c : w'.cell? ⟨F, 1, none⟩ = some (.bool r2) := (RF.out w' h).at_ 1; go_simp; try rfl⟩) hS ?_
      go_simp
      refine wpAnyH_take (i := 14) (v := .bool (!em && r2)) rfl (by kernel_rfl) (by kernel_rfl) (by kernel_rfl) (fun _ _ _ h => h) (by cases em <;> exact Or.inl ⟨rfl, fun w' h => by go_simp; try rfl⟩) hS ?_
      go_simp
      refine wpAnyH_take (i := 18) (v := .bool nn) rfl (by kernel_rfl) (by kernel_rfl) (by kernel_rfl) (fun _ _ _ h => h) (Or.inl ⟨rfl, fun w' h => by go_simp; try rfl⟩) hS ?_
      go_simp
      refine wpAnyH_take (i := 19) (v := bif nn then .pointer (some ⟨F, 2, none⟩) else undef) rfl (by kernel_rfl) (by kernel_rfl) (by kernel_rfl) (fun _ _ _ h => h) (by cases nn <;> first | exact Or.inr ⟨rfl, rfl⟩ | exact Or.inl ⟨rfl, fun w' h => by  go_simp; try rfl⟩) hS ?_
      go_simp
      refine wpAnyH_take (i := 20) (v := bif nn then .bool r3 else undef) rfl (by kernel_rfl) (by kernel_rfl) (by kernel_rfl) (fun _ _ _ h => h) (by cases nn <;> first | exact Or.inr ⟨rfl, rfl⟩ | exact Or.inl ⟨rfl, fun w' h => by have c : w'.cell? ⟨F, 2, none⟩ = some (.bool r3) := (RF.out w' h).at_ 2; go_simp; try rfl⟩) hS ?_
      go_simp
      refine wpAnyH_take (i := 21) (v := .bool (nn && r3)) rfl (by kernel_rfl) (by kernel_rfl) (by kernel_rfl) (fun _ _ _ h => h) (by cases nn <;> exact Or.inl ⟨rfl, fun w' h => by go_simp; try rfl⟩) hS ?_
      go_simp
      refine wpAnyH_take (i := 25) (v := .bool yy) rfl (by kernel_rfl) (by kernel_rfl) (by kernel_rfl) (fun _ _ _ h => h) (Or.inl ⟨rfl, fun w' h => by go_simp; try rfl⟩) hS ?_
      go_simp
      refine wpAnyH_take (i := 26) (v := bif yy then .pointer (some ⟨F, 3, none⟩) else undef) rfl (by kernel_rfl) (by kernel_rfl) (by kernel_rfl) (fun _ _ _ h => h) (by cases yy <;> first | exact Or.inr ⟨rfl, rfl⟩ | exact Or.inl ⟨rfl, fun w' h => by  go_simp; try rfl⟩) hS ?_
      go_simp
      refine wpAnyH_take (i := 27) (v := bif yy then .bool r4 else undef) rfl (by kernel_rfl) (by kernel_rfl) (by kernel_rfl) (fun _ _ _ h => h) (by cases yy <;> first | exact Or.inr ⟨rfl, rfl⟩ | exact Or.inl ⟨rfl, fun w' h => by have c : w'.cell? ⟨F, 3, none⟩ = some (.bool r4) := (RF.out w' h).at_ 3; go_simp; try rfl⟩) hS ?_
      go_simp
      refine wpAnyH_take (i := 28) (v := .bool (yy && r4)) rfl (by kernel_rfl) (by kernel_rfl) (by kernel_rfl) (fun _ _ _ h => h) (by cases yy <;> exact Or.inl ⟨rfl, fun w' h => by go_simp; try rfl⟩) hS ?_
      go_simp
      refine wpAnyH_take (i := 29) (v := .agg (hasL (d && r1) (!em && r2) (nn && r3) (yy && r4)).toArray) rfl (by kernel_rfl) (by kernel_rfl) (by kernel_rfl) (fun _ _ _ h => h) (Or.inl ⟨rfl, fun w' h => by go_simp; try rfl⟩) hS ?_
      go_simp
      have hGs := Nat.le_refl D.heap.size
      refine wpAnyH_ready (rs := [31]) (by kernel_rfl) (by simp) (AllReadyH.cons (o := _) rfl (fun K hK => ?_) AllReadyH.nil)
      refine wp_store_row 53 (.tmp 5) (.tmp 43) rfl D.heap.size (hasL (d && r1) (!em && r2) (nn && r3) (yy && r4)).toArray rfl rfl 53 _ hG3 (i53 _ _ _ _) rfl (hasL_all _ _ _ _) ?_
      refine hK.out _ _ (below_row hS hGs _) (fun hS => ?_)
      clear hK K
      go_simp
      refine wpAnyH_done (by kernel_rfl) ?_ _
      refine hMet _ _ (Met.intro (hJ _ _ ?_))
      (repeat apply Exists.intro)
      refine ⟨?_, rfl⟩
      exact ⟨D.heap.size, rfl, hG3.row, RM.out _ hS, hbd.trans (hS.mono hbd.size)⟩

end Go.Proofs.YtokcmaehojljdaaDoor

/- num.Put, in plain words. -/
namespace Go.Proofs.YtokcmaehojljdaaDoor
open Go.RowKit Go.Proofs.YtokcmaehojljdaaDoorW.PrintWords Go.Proofs.YtokcmaehojljdaaDoorW.PrintLast Go.Proofs.YtokcmaehojljdaaDoorW.PrintMore

theorem wrap_nat (x : Int) (n : Nat) (h : x = n) (hn : n ≤ 9223372036854775807) : wrap64 x = n := by subst h; unfold wrap64; omega
theorem bytes_app (l m : List UInt8) : (⟨l.toArray⟩ : ByteArray) ++ ⟨m.toArray⟩ = ⟨(l ++ m).toArray⟩ := by
  apply ByteArray.ext
  simp [ByteArray.data_append]
theorem bytes_size (l : List UInt8) : (⟨l.toArray⟩ : ByteArray).size = l.length := by simp [ByteArray.size]
theorem toList_inj (s t : ByteArray) : s.toList = t.toList ↔ s = t := by
  rw [ByteArray.toList_eq, ByteArray.toList_eq]
  exact ⟨fun h => ByteArray.ext (Array.toList_inj.1 h), fun h => by rw [h]⟩
/-- The lowest z bytes of a number. -/
def putU (n z : Nat) : List UInt8 := (List.range z).map fun i => UInt8.ofNat (n / 256 ^ i % 256)
theorem putU_next (n z : Nat) : putU n (z + 1) = putU n z ++ [UInt8.ofNat (n / 256 ^ z % 256)] := by simp [putU, List.range_succ]
theorem putU_len (n z : Nat) : (putU n z).length = z := by simp [putU]
theorem putU_front (n z : Nat) : putU n (z + 1) = UInt8.ofNat (n % 256) :: putU (n / 256) z := by
  unfold putU
  rw [List.range_succ_eq_map, List.map_cons, List.map_map, Nat.pow_zero, Nat.div_one]
  congr 1
  refine List.map_congr_left fun i _ => ?_
  show UInt8.ofNat (n / 256 ^ (i + 1) % 256) = UInt8.ofNat (n / 256 / 256 ^ i % 256)
  rw [Nat.div_div_eq_div_mul, Nat.pow_succ, Nat.mul_comm]
/-- The number of bytes, the lowest first. -/
def getU : List UInt8 → Nat
  | [] => 0
  | c :: t => c.toNat + 256 * getU t
theorem getU_lt : ∀ L : List UInt8, getU L < 256 ^ L.length
  | [] => by simp [getU]
  | c :: t => by
    have := getU_lt t
    have hc := c.toNat_lt
    rw [getU, List.length_cons, Nat.pow_succ]
    omega
theorem getU_snoc : ∀ (L : List UInt8) (c : UInt8), getU (L ++ [c]) = getU L + c.toNat * 256 ^ L.length
  | [], c => by simp [getU]
  | d :: t, c => by
    have := getU_snoc t c
    rw [List.cons_append, getU, this, getU, List.length_cons, Nat.pow_succ, Nat.mul_add, ← Nat.mul_assoc, ← Nat.mul_assoc, Nat.mul_comm 256 c.toNat, Nat.mul_assoc c.toNat 256, Nat.mul_comm 256 (256 ^ t.length), Nat.mul_assoc, Nat.add_assoc]
theorem getU_putU : ∀ (z n : Nat), getU (putU n z) = n % 256 ^ z
  | 0, n => by simp [putU, getU, Nat.mod_one]
  | z + 1, n => by
    have e : (UInt8.ofNat (n % 256)).toNat = n % 256 := by simp
    rw [putU_front, getU, getU_putU z, e, Nat.pow_succ, Nat.mul_comm (256 ^ z), Nat.mod_mul]
theorem putU_getU : ∀ L : List UInt8, putU (getU L) L.length = L
  | [] => rfl
  | c :: t => by
    have hc := c.toNat_lt
    have e1 : (c.toNat + 256 * getU t) % 256 = c.toNat := by omega
    have e2 : (c.toNat + 256 * getU t) / 256 = getU t := by omega
    rw [getU, List.length_cons, putU_front, e1, e2, putU_getU t]
    simp

/-! ### The program's Put -/
def putI (n i z : Nat) : List Int := ((List.range i).map fun j => ((n / 256 ^ j % 256 : Nat) : Int)) ++ List.replicate (z - i) 0
theorem putI_len (n i z : Nat) (h : i ≤ z) : (putI n i z).length = z := by simp [putI]; omega
theorem putI_set (n i z : Nat) (h : i < z) : (putI n i z).set i ((n / 256 ^ i % 256 : Nat) : Int) = putI n (i + 1) z := by
  obtain ⟨m, hm⟩ : ∃ m, z - i = m + 1 := ⟨z - i - 1, by omega⟩
  unfold putI
  rw [hm, List.replicate_succ, List.set_append_right _ _ (by simp), List.range_succ, List.map_append]
  have : z - (i + 1) = m := by omega
  rw [this]
  simp
theorem shr_byte (n i : Nat) (hi : i < 8) : shr .u64 (n : Int) ((8 * i : Nat) : Int) % 256 = ((n / 256 ^ i % 256 : Nat) : Int) := by
  unfold shr
  have e1 : min ((8 * i : Nat) : Int).toNat IntKind.u64.bits = 8 * i := by
    rw [Int.toNat_natCast]; exact Nat.min_eq_left (by show 8 * i ≤ 64; omega)
  rw [e1]
  have e2 : (2 : Int) ^ (8 * i) = ((256 ^ i : Nat) : Int) := by
    rw [Int.natCast_pow, Int.pow_mul]; rfl
  rw [e2]
  rfl
theorem put_loop (n z : Nat) (hz : z ≤ 8) (d : Nat) : ∀ (i k : Nat), i + d = z → d < k → PWire.num_Put.l0 k n (putI n i z) (z : Int) i = some ⟨(putU n z).toArray⟩ := by
  induction d with
  | zero =>
    intro i k hi hk
    obtain ⟨k, rfl⟩ : ∃ m, k = m + 1 := ⟨k - 1, by omega⟩
    obtain rfl : i = z := by omega
    rw [PWire.num_Put.l0, if_neg (by omega)]
    unfold putI putU strOfNums
    rw [Nat.sub_self, List.replicate_zero, List.append_nil, List.map_map]
    congr 3
  | succ d ih =>
    intro i k hi hk
    obtain ⟨k, rfl⟩ : ∃ m, k = m + 1 := ⟨k - 1, by omega⟩
    have w1 : wrap64 (8 * (i : Int)) = ((8 * i : Nat) : Int) := wrap_nat _ _ (by omega) (by omega)
    have w2 : wrap64 ((i : Int) + 1) = ((i + 1 : Nat) : Int) := wrap_nat _ _ rfl (by clear w1; omega)
    rw [PWire.num_Put.l0, w1, w2]
    clear w1 w2
    rw [if_pos (by omega), if_pos (by omega), if_pos (by omega), if_pos (by rw [putI_len n i z (by omega)]; omega), shr_byte n i (by omega), Int.toNat_natCast, putI_set n i z (by omega)]
    exact ih (i + 1) k (by omega) (by omega)
theorem put_f (n : Nat) (a1 : Int) (z : Nat) (hz : mn (mx a1 0) 8 = z) (hz8 : z ≤ 8) (k : Nat) (hk : 8 < k) : PWire.num_Put.f k n a1 = some ⟨(putU n z).toArray⟩ := by
  unfold PWire.num_Put.f
  rw [hz, if_pos (by omega), if_pos (by rw [Int.toNat_natCast]; omega), Int.toNat_natCast]
  simp only [Option.bind_some, List.length_replicate]
  have h := put_loop n z hz8 z 0 k (by omega) (by omega)
  have e : putI n 0 z = List.replicate z 0 := by simp [putI]
  rw [e] at h
  exact h
set_option maxRecDepth 100000 in
theorem dec39_any (n : Int) (h0 : -9223372036854775808 ≤ n) (h1 : n ≤ 9223372036854775807) (w : World) (h : Laid w) : Calls Tryd.prog 39 #[.int .i64 n] w fun e w' => e = .returned (.string (dec n)) ∧ Below w.heap.size w w' := by
  go_enter Tryd.func39, Tryd.ntmps39
  go_wp2_with fail
  refine (dec_any n h0 h1 _ h).mono ?_
  rintro e w' ⟨rfl, hb⟩
  go_wp2_with fail
  go_ret
  exact ⟨rfl, hb⟩
set_option maxRecDepth 100000 in
theorem dec40_any (n : Int) (h0 : -9223372036854775808 ≤ n) (h1 : n ≤ 9223372036854775807) (w : World) (h : Laid w) : Calls Tryd.prog 40 #[.int .i64 n] w fun e w' => e = .returned (.string (dec n)) ∧ Below w.heap.size w w' := by
  go_enter Tryd.func40, Tryd.ntmps40
  go_wp2_with fail
  refine (dec_any n h0 h1 _ h).mono ?_
  rintro e w' ⟨rfl, hb⟩
  go_wp2_with fail
  go_ret
  exact ⟨rfl, hb⟩
theorem put8_any (n : Int) (h0 : 0 ≤ n) (h1 : n ≤ 18446744073709551615) (w : World) : Calls Tryd.prog 41 #[.int .u64 n, .int .i64 8] w fun e w' => e = .returned (.string ⟨(putU n.toNat 8).toArray⟩) ∧ Below w.heap.size w w' := by
  obtain ⟨m, rfl⟩ := Int.eq_ofNat_of_zero_le h0
  rw [Int.toNat_natCast]
  exact PWire.num_Put.calls 20 m 8 _ w (put_f m 8 8 (by decide) (by decide) 20 (by decide))
end Go.Proofs.YtokcmaehojljdaaDoor

/- manifest.Bytes: its walk. -/
namespace Go.Proofs.YtokcmaehojljdaaDoor
open Go.RowKit Go.Shelf Go.Proofs.YtokcmaehojljdaaDoorW.PrintWords Go.Proofs.YtokcmaehojljdaaDoorW.PrintLast Go.Proofs.YtokcmaehojljdaaDoorW.PrintMore

def hibm : ByteArray := ⟨#[104, 105, 98, 109]⟩
def headSn (s : Sn) : List ByteArray := [hibm, s.mach, dec s.n, dec s.at_, ⟨(putU s.clock.toNat 8).toArray⟩, dec s.pages, dec s.blocks]
def digs (l : List ByteArray) : ByteArray := ⟨(l.flatMap ofD).toArray⟩
def rowTo (s : Sn) (i : Nat) : List ByteArray := headSn s ++ (List.range i).map fun j => digs (lst s j)
def rowSn (s : Sn) : List ByteArray := rowTo s 3 ++ [⟨s.sum.toArray⟩]
def bytesSn (s : Sn) : ByteArray := if checkSn s = 0 then ⟨(rowU (rowSn s)).toArray⟩ else ⟨#[]⟩
theorem R_new (W : World) (base : Nat) (hb : base < W.heap.size) (xs : List ByteArray) (hm : xs.length ≤ 1000) : Kd.R Kd.string 9 (W.alloc (.cells (xs.map Value.string).toArray 9)) base (fun k => k ≠ base) (.slice (some ⟨W.heap.size, 0, none⟩) xs.length xs.length) xs := by
  refine Kd.R_of_own ?_ (fun k hk => by
    have : W.heap.size = k := by simpa [Value.ownBlock] using hk
    omega)
  have h := World.ownsRow_lit (base := base) (e := 9) (size := 1) W (xs.map Value.string).toArray xs.length (Nat.le_of_lt hb) (by unfold maxLen; omega) (by simp)
  exact h
theorem info9 : (Tryd.prog.info? 9).map (fun i => (i.zero, i.size, i.bytes)) = some (some (.string ⟨#[]⟩), 1, 16) := by kernel_rfl
theorem check_zero (s : Sn) (h : checkSn s = 0) : machineB s.mach = true ∧ rangeB s = true ∧ sumTo s 3 ≤ 1000 ∧ badS s = false := by
  unfold checkSn at h
  by_cases h1 : machineB s.mach = false
  · rw [if_pos h1] at h; exact absurd h (by decide)
  rw [if_neg h1] at h
  by_cases h2 : rangeB s = false
  · rw [if_pos h2] at h; exact absurd h (by decide)
  rw [if_neg h2] at h
  by_cases h3 : 1000 < sumTo s 3
  · rw [if_pos h3] at h; exact absurd h (by decide)
  rw [if_neg h3] at h
  by_cases h4 : badS s = true
  · rw [if_pos h4] at h; exact absurd h (by decide)
  exact ⟨by simpa using h1, by simpa using h2, by omega, by simpa using h4⟩
theorem lst_le (s : Sn) (i : Nat) (h : i < 3) : (lst s i).length ≤ sumTo s 3 := by
  have h : i = 0 ∨ i = 1 ∨ i = 2 := by omega
  rcases h with rfl | rfl | rfl <;> simp [lst, sumTo] <;> omega
theorem flat_len (l : List ByteArray) : (l.flatMap ofD).length = 32 * l.length := by
  induction l with
  | nil => rfl
  | cons x l ih => rw [List.flatMap_cons, List.length_append, ofD_len, ih, List.length_cons]; omega
theorem rowU_bound (B : Nat) (hB : B < 268435456) (l : List ByteArray) (h : ∀ s ∈ l, s.size ≤ B) : (rowU l).length ≤ l.length * (B + 4) := by
  induction l with
  | nil => simp [rowU]
  | cons s l ih =>
    have e : rowU (s :: l) = lenU s.size ++ (s.data.toList ++ rowU l) := by simp [rowU]
    have hsz : s.data.toList.length = s.size := by simp
    have h1 := h s (by simp)
    have h2 := lenU_len 3 s.size (by simp; omega)
    have h3 := ih (fun x hx => h x (by simp [hx]))
    rw [e, List.length_append, List.length_append, hsz, List.length_cons, Nat.add_mul, Nat.one_mul]
    omega
theorem machine_size (s : ByteArray) (h : machineB s = true) : s.size ≤ 24 := by
  unfold machineB at h
  rw [Bool.and_eq_true, Bool.and_eq_true, decide_eq_true_eq] at h
  exact h.1.2
theorem rowSn_len (s : Sn) (h : checkSn s = 0) (hs : s.sum.length = 32) (hn : -9223372036854775808 ≤ s.n ∧ s.n ≤ 9223372036854775807) (hat : -9223372036854775808 ≤ s.at_ ∧ s.at_ ≤ 9223372036854775807)
    (hp : -9223372036854775808 ≤ s.pages ∧ s.pages ≤ 9223372036854775807) (hb : -9223372036854775808 ≤ s.blocks ∧ s.blocks ≤ 9223372036854775807) : (rowU (rowSn s)).length ≤ 1000000 := by
  obtain ⟨h1, _, h3, _⟩ := check_zero s h
  have hm := machine_size _ h1
  have hd : ∀ n, -9223372036854775808 ≤ n ∧ n ≤ 9223372036854775807 → (dec n).size ≤ 32000 := fun n hn => by
    have := Lib.itoa_length_le n hn.1 hn.2
    have e : (dec n).size = (Lib.itoa n).length := bytes_size _
    omega
  have hg : ∀ i, i < 3 → (digs (lst s i)).size ≤ 32000 := fun i hi => by
    have := lst_le s i hi
    have e : (digs (lst s i)).size = ((lst s i).flatMap ofD).length := bytes_size _
    rw [e, flat_len]; omega
  have hl : (rowSn s).length = 11 := by simp [rowSn, rowTo, headSn]
  have := rowU_bound 32000 (by decide) (rowSn s) (fun x hx => by
    have h32 : (⟨s.sum.toArray⟩ : ByteArray).size ≤ 32000 := by rw [bytes_size, hs]; decide
    have h8 : (⟨(putU s.clock.toNat 8).toArray⟩ : ByteArray).size ≤ 32000 := by rw [bytes_size, putU_len]; decide
    have h4 : hibm.size ≤ 32000 := by decide
    simp only [rowSn, rowTo, headSn, List.range_succ, List.range_zero, List.map_append, List.map_cons, List.map_nil, List.nil_append, List.mem_append, List.mem_cons, List.not_mem_nil, or_false] at hx
    rcases hx with ((rfl | rfl | rfl | rfl | rfl | rfl | rfl) | (rfl | rfl) | rfl) | rfl
    · exact h4
    · omega
    · exact hd _ hn
    · exact hd _ hat
    · exact h8
    · exact hd _ hp
    · exact hd _ hb
    · exact hg 0 (by decide)
    · exact hg 1 (by decide)
    · exact hg 2 (by decide)
    · exact h32)
  rw [hl] at this
  omega
theorem sum_text {w : World} {b : Nat} {s : Sn} {v0 v1 v2 : Value} (h : Row w b 28 (snL s v0 v1 v2).toArray) (hs : s.sum.length = 32) :
    (convert 42 9 (.slice (some ⟨b, 9, none⟩) 32 32)).run Tryd.prog w = .ok (.string ⟨s.sum.toArray⟩) w := by
  have key := run_convert_bytes_arg (P := Tryd.prog) w 42 5 Tryd.underlying42 Tryd.underlying5 b 9 32 32 (s.sum.map fun u : UInt8 => (u.toNat : Int)) (by simp [hs]) (fun j hj => by
    rw [h.at_ (9 + j), snL, List.getElem?_append_right (by simp)]
    simp [Lib.byteCells, List.getD_eq_getElem?_getD, List.getElem?_eq_getElem (show j < s.sum.length by omega)]) 9 Tryd.underlying9
  have e : strOfNums (s.sum.map fun u : UInt8 => (u.toNat : Int)) = ⟨s.sum.toArray⟩ := by
    unfold strOfNums
    rw [List.map_map]
    have : ((fun n : Int => UInt8.ofNat n.toNat) ∘ fun u : UInt8 => (u.toNat : Int)) = id := by
      funext u
      simp
    rw [this, List.map_id]
  rw [key, e]
theorem rowTo_next (s : Sn) (i : Nat) : rowTo s (i + 1) = rowTo s i ++ [digs (lst s i)] := by simp [rowTo, List.range_succ]
set_option maxHeartbeats 8000000 in
set_option maxRecDepth 100000 in
theorem bytes_any (s : Sn) (v0 v1 v2 : Value) (w : World) (h : SnOk w s v0 v1 v2) (hl : Laid w) :
    Calls Tryd.prog 18 #[.agg (snL s v0 v1 v2).toArray] w fun e w' => e = .returned (.tuple #[.string (bytesSn s), .int .i64 (checkSn s)]) ∧ Below w.heap.size w w' := by
  have hs := h.hs
  have hn := h.hn
  have hat := h.hat
  have hc := h.hc
  have hp := h.hp
  have hbk := h.hb
  have hR := Row.new w (snL s v0 v1 v2).toArray 28
  have hb0 := (Below.refl w.heap.size w).alloc (Nat.le_refl _) (.cells (snL s v0 v1 v2).toArray 28)
  have hlt0 : w.heap.size < (w.alloc (.cells (snL s v0 v1 v2).toArray 28)).heap.size := by rw [size_alloc]; omega
  go_enter Tryd.func18, Tryd.ntmps18
  go_upto_region 1 with (fail)
  refine wp_abs (fun W HW => ?_)
  rw [← HW.out] at hR hb0 hlt0
  clear HW
  have hwh := sn_whole hR hs
  go_wp2_with (refine wpList_load_list rfl 28 (.tmp 1) rfl w.heap.size 0 rfl _ hwh ?_)
  clear hwh
  refine (check_any s v0 v1 v2 _ (h.below hb0)).mono ?_
  rintro e w1 ⟨rfl, hb1⟩
  have hR1 : Row w1 w.heap.size 28 _ := hR.below hb1 hlt0
  replace hb1 := hb0.trans (hb1.mono hb0.size)
  clear hR hb0 hlt0
  have hby : bytesSn s = if checkSn s = 0 then ⟨(rowU (rowSn s)).toArray⟩ else ⟨#[]⟩ := rfl
  by_cases hck : checkSn s = 0
  · rw [if_pos hck] at hby
    rw [hck]
    have HBY := Sec.mk hby
    have HCK := Sec.mk hck
    clear hby hck
    go_upto_region 4 with (fail)
    have HH := Sec.mk h
    clear h
    go_cut [5] (fun v5 wc => Kd.R Kd.string 9 wc w.heap.size (fun k => k ≠ w.heap.size) v5 (rowTo s 0) ∧ Row wc w.heap.size 28 (snL s v0 v1 v2).toArray ∧ Below w.heap.size w wc)
    case rest =>
      clear hR1 hb1 hn hat hc hp hbk
      obtain ⟨hO, hRw, hb⟩ := hcut
      obtain ⟨A, c, rfl, rfl, rfl, hlst⟩ := lists_at HH.out
      have HLST := Sec.mk hlst
      have hls := sn_lists hRw
      have hix := Sec.mk (idx3 (fun i => .slice (A i) (lst s i).length (c i)))
      clear hlst
      go_wp2_with (refine wpList_load_list rfl 24 (.tmp 36) rfl w.heap.size 6 rfl _ hls ?_)
      clear hls
      go_loopw [5, 38] (fun v5 v38 wr => ∃ i : Nat, i ≤ 3 ∧ v38 = .int .i64 i ∧ Kd.R Kd.string 9 wr w.heap.size (fun k => k ≠ w.heap.size) v5 (rowTo s i) ∧ Row wr w.heap.size 28 (snL s (.slice (A 0) (lst s 0).length (c 0)) (.slice (A 1) (lst s 1).length (c 1)) (.slice (A 2) (lst s 2).length (c 2))).toArray ∧ Below w.heap.size w wr) (fun _ v38 _ => 3 - (intOf v38).toNat)
      case atStart => exact ⟨0, by omega, rfl, hO, hRw, hb⟩
      case round =>
        clear hO hRw hb
        obtain ⟨i, hi, rfl, hO, hRw, hb⟩ := hrel
        obtain ⟨w0, hw0⟩ : ∃ w0, w0 = wr := ⟨_, rfl⟩
        subst hw0
        by_cases hlt : i < 3
        · have hd : decide ((i : Int) < 3) = true := decide_eq_true (by omega)
          have hixi := hix.out i hlt
          obtain ⟨hli, hC, hln, _⟩ := HLST.out i hlt
          clear hli
          go_upto_region 9 with (fail)
          have hB0 : Lib.IsBuilder 66 5 w0.heap.size w0.heap.size (Lib.byteCells (((lst s i).take 0).flatMap ofD)) (w0.alloc (.cells #[.pointer none, .slice none 0 0] 66)) :=
            .inl ⟨Nat.le_refl _, .slice none 0 0, heap_alloc_new w0 _, by simp [Lib.byteCells]; exact World.ownsRow_nil _ _ _ _, by simp [Value.ownBlock]⟩
          have hbA := (Below.refl w0.heap.size w0).alloc (Nat.le_refl _) (.cells #[.pointer none, .slice none 0 0] 66)
          refine wp_abs (fun W2 HW => ?_)
          rw [← HW.out] at hB0 hbA
          clear HW
          have hCr := Kd.C_below hC hb
          have hln3 : (lst s i).length ≤ 1000 := Nat.le_trans (lst_le s i hlt) (check_zero s HCK.out).2.2.1
          have HO := Sec.mk hO
          have HRW := Sec.mk hRw
          have HBW := Sec.mk hb
          clear hO hRw hb hC hixi hln
          generalize hll : lst s i = ll at hB0 hCr hln3 ⊢
          have HLL := Sec.mk hll
          clear hll
          generalize A i = Ai at hCr ⊢
          go_wp2_with fail
          go_loopw [43] (fun v43 w2 => ∃ j : Nat, j ≤ ll.length ∧ v43 = .int .i64 j ∧ Lib.IsBuilder 66 5 w0.heap.size w0.heap.size (Lib.byteCells ((ll.take j).flatMap ofD)) w2 ∧ Below w0.heap.size w0 w2) (fun v43 _ => ll.length - (intOf v43).toNat)
          case atStart => exact ⟨0, by omega, rfl, hB0, hbA⟩
          case round =>
            clear hB0 hbA
            obtain ⟨j, hj, rfl, hB, hbA⟩ := hrel
            by_cases hjl : j < ll.length
            · have hdj : decide ((j : Int) < ll.length) = true := decide_eq_true (by omega)
              obtain ⟨ad, e, hx⟩ := Kd.at_string (Kd.C_below hCr hbA) (j : Int) (by omega) (by omega)
              cases e
              obtain ⟨x, hxs⟩ : ∃ x, ll[j]? = some x := ⟨_, List.getElem?_eq_getElem hjl⟩
              have hx' : wr.cell? (ad.add j) = some (.string x) := by
                have e2 : rdOf ByteArray.empty ll (j : Int) = x := by simp [rdOf, List.getD_eq_getElem?_getD, hxs]
                rw [e2] at hx
                exact hx
              have hlo := ofD_len x
              have htk : ll.take (j + 1) = ll.take j ++ [x] := by rw [List.take_add_one, hxs]; rfl
              have hfl := flat_len (ll.take j)
              have htl : (ll.take j).length = j := by rw [List.length_take]; omega
              have p1 : (0 ≤ (j : Int)) = True := eq_true (by omega)
              have q1 : ((j : Int) < ll.length) = True := eq_true (by omega)
              have HXS := Sec.mk hxs
              clear hx hxs
              go_wp2_with fail
              refine (of_any x _).mono ?_
              rintro e w3 ⟨rfl, hb3⟩
              have hB3 : Lib.IsBuilder 66 5 w0.heap.size w0.heap.size (Lib.byteCells ((ll.take j).flatMap ofD)) w3 := isBuilder_kept hB hb3
              replace hb3 := hbA.trans (hb3.mono hbA.size)
              have hbw : w0.heap.size < w3.heap.size := by rcases hB3 with h | h <;> exact h.lt
              have hR4 : Row (w3.alloc (.cells (Array.replicate 32 (.int .u8 0)) 26)) w3.heap.size 26 (Array.replicate 32 (.int .u8 0)) := Row.new w3 _ 26
              have hB4 := isBuilder_kept hB3 ((Below.refl w3.heap.size w3).alloc (Nat.le_refl _) (.cells (Array.replicate 32 (.int .u8 0)) 26))
              have hB5 := isBuilder_kept hB3 (below_row ((Below.refl w3.heap.size w3).alloc (Nat.le_refl _) (.cells (Array.replicate 32 (.int .u8 0)) 26)) (Nat.le_refl _) (Lib.byteCells (ofD x)).toArray)
              have hb5 := below_row (hb3.alloc hb3.size (.cells (Array.replicate 32 (.int .u8 0)) 26)) hb3.size (Lib.byteCells (ofD x)).toArray
              have hR5 := hR4.row (C := (Lib.byteCells (ofD x)).toArray)
              clear hB hB3 hB4 hbA hb3 hx'
              generalize ofOk x = okx
              go_upto_region 13 with (refine wpList_store_row rfl 26 (.tmp 11) (.tmp 50) rfl w3.heap.size (Lib.byteCells (ofD x)).toArray rfl rfl 26 _ hR4 (i26 _ hlo) (by simp [Lib.byteCells_length, hlo]) (byteCells_all _) ?_)
              refine wp_abs (fun W5 HW => ?_)
              have HW' : W5 = (w3.alloc (.cells (Array.replicate 32 (.int .u8 0)) 26)).setRow w3.heap.size (Lib.byteCells (ofD x)).toArray := HW.out
              rw [← HW'] at hB5 hb5 hR5
              clear HW HW' hR4
              have hal : Tryd.prog.arrayLen 26 = 32 := by kernel_rfl
              go_wp2_with fail
              refine (write_any hB5 ⟨w3.heap.size, 0, none⟩ 32 32 (Lib.byteCells (ofD x)) (by rw [Lib.byteCells_length, hlo]) (by decide) (fun k u hu => by
                have hadd : (⟨w3.heap.size, 0, none⟩ : Addr).add k = ⟨w3.heap.size, k, none⟩ := by unfold Addr.add; split <;> simp_all
                rw [hadd, hR5.at_]; exact hu) (by show w3.heap.size ≠ w0.heap.size; omega) (byteCells_one _) (by rw [Lib.byteCells_length, hfl, htl]; omega) hb5.size).mono ?_
              rintro e w6 ⟨⟨v6, rfl⟩, hB6, hb6⟩
              replace hb6 := hb5.trans hb6
              have e6 : Lib.byteCells ((ll.take j).flatMap ofD) ++ Lib.byteCells (ofD x) = Lib.byteCells ((ll.take (j + 1)).flatMap ofD) := by
                rw [htk, List.flatMap_append]; simp [Lib.byteCells]
              rw [e6] at hB6
              clear hB5 hb5 hR5 e6 hfl htl
              go_wp2_with fail
              go_roundw
              case rel => exact ⟨j + 1, by omega, by go_num, hB6, hb6⟩
              case measure => simp [intOf]; omega
            · have hdj : decide ((j : Int) < ll.length) = false := decide_eq_false (by omega)
              rw [List.take_of_length_le (by omega)] at hB
              go_wp2_with fail
              refine (Tryd.Builder_String_any w0.heap.size w0.heap.size (ll.flatMap ofD) _ hB hbA.size).mono ?_
              rintro e w7 ⟨rfl, hb7⟩
              have hb07 := hbA.trans hb7
              have hO7 := Kd.R_below HO.out hb07
              have hR7 : Row w7 w.heap.size 28 _ := HRW.out.below hb07 HRW.out.lt
              have hb9 := HBW.out.trans (hb07.mono HBW.out.size)
              have hrl : (rowTo s i).length ≤ 10 := by simp [rowTo, headSn]; omega
              have hnx := rowTo_next s i
              rw [HLL.out] at hnx
              have hdg : digs ll = ⟨(ll.flatMap ofD).toArray⟩ := rfl
              clear hB hbA hb7 hb07
              go_wp2_with ((with_reducible refine gate_builtin (b := .append) (xs := #[.tmp 55, .tmp 57]) rfl ?_); at_builtin; refine Kd.R_append Kd.string (w0 := w) w.heap.size rfl (.tmp 55) (.tmp 57) 23 9 (.string ⟨#[]⟩) 16 rfl Tryd.underlying23 info9 rfl (by decide) (by omega) u5 (rowTo s i) (digs ll) [.string (digs ll)] (fun k => k ≠ w.heap.size) (fun _ => False) rfl rfl rfl (fun _ hk => hk.elim) (fun k hk => by have := hR7.lt; omega) hO7 hb9 hb9.size (by omega) ?_)
              intro v8 w8 hO8 hb8 hg8 _
              rw [hdg] at hnx
              rw [← hnx] at hO8
              have hne : some w.heap.size ≠ u5.ownBlock := fun e => hO7.1 _ e.symm rfl
              have hR8 : Row w8 w.heap.size 28 _ := hR7.grown hg8 hne
              clear hO7 hR7 hb9 hrl hnx hdg hg8 hne
              go_wp2_with fail
              go_roundw
              case rel => exact ⟨i + 1, by omega, by go_num, hO8, hR8, hb8⟩
              case measure => simp [intOf]; omega
        · have hd : decide ((i : Int) < 3) = false := decide_eq_false (by omega)
          obtain rfl : i = 3 := by omega
          have hcv := sum_text hRw hs
          have hal : Tryd.prog.arrayLen 26 = 32 := by kernel_rfl
          have hrl : (rowTo s 3).length = 10 := by simp [rowTo, headSn]
          have hrs : rowSn s = rowTo s 3 ++ [⟨s.sum.toArray⟩] := rfl
          have hln := rowSn_len s HCK.out hs HH.out.hn HH.out.hat HH.out.hp HH.out.hb
          have hrf : num_Row.f (rowSn s) = some ⟨(rowU (rowSn s)).toArray⟩ := by unfold num_Row.f; rw [if_pos (by omega)]
          have HRF := Sec.mk hrf
          have HRS := Sec.mk hrs
          have hlw := hRw.lt
          clear hln hrf hrs hRw
          go_wp2_with ((with_reducible refine gate_builtin (b := .append) (xs := #[.tmp 60, .tmp 64]) rfl ?_); at_builtin; refine Kd.R_append Kd.string (w0 := w) w.heap.size rfl (.tmp 60) (.tmp 64) 23 9 (.string ⟨#[]⟩) 16 rfl Tryd.underlying23 info9 rfl (by decide) (by omega) u5 (rowTo s 3) (⟨s.sum.toArray⟩) [.string (⟨s.sum.toArray⟩)] (fun k => k ≠ w.heap.size) (fun _ => False) rfl rfl rfl (fun _ hk => hk.elim) (fun k hk => by omega) hO hb hb.size (by omega) ?_)
          intro v8 w8 hO8 hb8 _ _
          rw [← HRS.out] at hO8
          obtain ⟨A9, c9, rfl⟩ := Kd.R_slice hO8
          have hC9 := (Kd.R_reads' hO8).2.2
          have hc9 := (Kd.R_reads' hO8).2.1
          clear hO hcv
          go_wp2_with fail
          refine (num_Row.calls A9 c9 (rowSn s) _ _ hC9 hc9 HRF.out).mono ?_
          rintro e w9 ⟨rfl, hb9⟩
          have hbz := hb8.trans (hb9.mono hb8.size)
          go_wp2_with fail
          go_ret2
          exact ⟨by rw [HBY.out, HCK.out]; rfl, hbz⟩
    rename_i J K' hJ hMet
    obtain ⟨D, hD⟩ : ∃ D, D = w1.drew := ⟨_, rfl⟩
    have hRd : Row w1.drew w.heap.size 28 (snL s v0 v1 v2).toArray := hR1
    have hbd : Below w.heap.size w w1.drew := hb1.drew
    rw [← hD] at hRd hbd
    refine wp_region_held_drew (S := Below D.heap.size D) (by kernel_rfl) (by rw [← hD]; exact Below.refl _ _) (fun hS => ?_)
    rw [← hD] at hS ⊢
    clear hD hR1 hb1
    have RS := Sec.mk (fun w' (h : Below D.heap.size D w') => sn_cells (hRd.below h hRd.lt))
    have HL := Sec.mk (fun w' (h : Below D.heap.size D w') => hl.below (hbd.trans (h.mono hbd.size)))
    refine wpAnyH_take (i := 0) (v := .pointer (some ⟨w.heap.size, 0, none⟩)) rfl (by kernel_rfl) (by kernel_rfl) (by kernel_rfl) (fun _ _ _ h => h) (Or.inl ⟨rfl, fun w' h => by go_simp; try rfl⟩) hS ?_
    go_simp
    refine wpAnyH_take (i := 1) (v := .string s.mach) rfl (by kernel_rfl) (by kernel_rfl) (by kernel_rfl) (fun _ _ _ h => h) (Or.inl ⟨rfl, fun w' h => by have c := (RS.out w' h).k0; go_simp; try rfl⟩) hS ?_
    go_simp
    refine wpAnyH_take (i := 2) (v := .pointer (some ⟨w.heap.size, 1, none⟩)) rfl (by kernel_rfl) (by kernel_rfl) (by kernel_rfl) (fun _ _ _ h => h) (Or.inl ⟨rfl, fun w' h => by go_simp; try rfl⟩) hS ?_
    go_simp
    refine wpAnyH_take (i := 3) (v := .int .i64 s.n) rfl (by kernel_rfl) (by kernel_rfl) (by kernel_rfl) (fun _ _ _ h => h) (Or.inl ⟨rfl, fun w' h => by have c := (RS.out w' h).k1; go_simp; try rfl⟩) hS ?_
    go_simp
    refine wpAnyH_take (i := 5) (v := .pointer (some ⟨w.heap.size, 2, none⟩)) rfl (by kernel_rfl) (by kernel_rfl) (by kernel_rfl) (fun _ _ _ h => h) (Or.inl ⟨rfl, fun w' h => by go_simp; try rfl⟩) hS ?_
    go_simp
    refine wpAnyH_take (i := 6) (v := .int .i64 s.at_) rfl (by kernel_rfl) (by kernel_rfl) (by kernel_rfl) (fun _ _ _ h => h) (Or.inl ⟨rfl, fun w' h => by have c := (RS.out w' h).k2; go_simp; try rfl⟩) hS ?_
    go_simp
    refine wpAnyH_take (i := 8) (v := .pointer (some ⟨w.heap.size, 3, none⟩)) rfl (by kernel_rfl) (by kernel_rfl) (by kernel_rfl) (fun _ _ _ h => h) (Or.inl ⟨rfl, fun w' h => by go_simp; try rfl⟩) hS ?_
    go_simp
    refine wpAnyH_take (i := 9) (v := .int .u64 s.clock) rfl (by kernel_rfl) (by kernel_rfl) (by kernel_rfl) (fun _ _ _ h => h) (Or.inl ⟨rfl, fun w' h => by have c := (RS.out w' h).k3; go_simp; try rfl⟩) hS ?_
    go_simp
    refine wpAnyH_take (i := 11) (v := .pointer (some ⟨w.heap.size, 4, none⟩)) rfl (by kernel_rfl) (by kernel_rfl) (by kernel_rfl) (fun _ _ _ h => h) (Or.inl ⟨rfl, fun w' h => by go_simp; try rfl⟩) hS ?_
    go_simp
    refine wpAnyH_take (i := 12) (v := .int .i64 s.pages) rfl (by kernel_rfl) (by kernel_rfl) (by kernel_rfl) (fun _ _ _ h => h) (Or.inl ⟨rfl, fun w' h => by have c := (RS.out w' h).k4; go_simp; try rfl⟩) hS ?_
    go_simp
    refine wpAnyH_take (i := 14) (v := .pointer (some ⟨w.heap.size, 5, none⟩)) rfl (by kernel_rfl) (by kernel_rfl) (by kernel_rfl) (fun _ _ _ h => h) (Or.inl ⟨rfl, fun w' h => by go_simp; try rfl⟩) hS ?_
    go_simp
    refine wpAnyH_take (i := 15) (v := .int .i64 s.blocks) rfl (by kernel_rfl) (by kernel_rfl) (by kernel_rfl) (fun _ _ _ h => h) (Or.inl ⟨rfl, fun w' h => by have c := (RS.out w' h).k5; go_simp; try rfl⟩) hS ?_
    go_simp
    refine wpAnyH_ready (rs := [4]) (by kernel_rfl) (by simp) (AllReadyH.cons (o := _) rfl (fun K hK => ?_) AllReadyH.nil)
    go_simp
    refine (dec39_any s.n hn.1 hn.2 _ (HL.out _ hS)).mono ?_
    rintro e y4 ⟨rfl, hy⟩
    refine hK.out _ _ (hS.trans (hy.mono hS.size)) (fun hS => ?_)
    clear hK K hy
    go_simp
    refine wpAnyH_ready (rs := [7]) (by kernel_rfl) (by simp) (AllReadyH.cons (o := _) rfl (fun K hK => ?_) AllReadyH.nil)
    go_simp
    refine (dec40_any s.at_ hat.1 hat.2 _ (HL.out _ hS)).mono ?_
    rintro e y7 ⟨rfl, hy⟩
    refine hK.out _ _ (hS.trans (hy.mono hS.size)) (fun hS => ?_)
    clear hK K hy
    go_simp
    refine wpAnyH_ready (rs := [10]) (by kernel_rfl) (by simp) (AllReadyH.cons (o := _) rfl (fun K hK => ?_) AllReadyH.nil)
    go_simp
    refine (put8_any s.clock hc.1 hc.2 _).mono ?_
    rintro e y10 ⟨rfl, hy⟩
    refine hK.out _ _ (hS.trans (hy.mono hS.size)) (fun hS => ?_)
    clear hK K hy
    go_simp
    refine wpAnyH_ready (rs := [13]) (by kernel_rfl) (by simp) (AllReadyH.cons (o := _) rfl (fun K hK => ?_) AllReadyH.nil)
    go_simp
    refine (dec39_any s.pages hp.1 hp.2 _ (HL.out _ hS)).mono ?_
    rintro e y13 ⟨rfl, hy⟩
    refine hK.out _ _ (hS.trans (hy.mono hS.size)) (fun hS => ?_)
    clear hK K hy
    go_simp
    refine wpAnyH_ready (rs := [16]) (by kernel_rfl) (by simp) (AllReadyH.cons (o := _) rfl (fun K hK => ?_) AllReadyH.nil)
    go_simp
    refine (dec39_any s.blocks hbk.1 hbk.2 _ (HL.out _ hS)).mono ?_
    rintro e y16 ⟨rfl, hy⟩
    refine hK.out _ _ (hS.trans (hy.mono hS.size)) (fun hS => ?_)
    clear hK K hy
    go_simp
    refine wpAnyH_ready (rs := [17]) (by kernel_rfl) (by simp) (AllReadyH.cons (o := _) rfl (fun K hK => ?_) AllReadyH.nil)
    go_simp
    have hGs := hS.size
    refine hK.out _ _ (hS.alloc hS.size _) (fun hS => ?_)
    clear hK K
    go_simp
    refine wpAnyH_take (i := 18) (v := .slice (some ⟨y16.heap.size, 0, none⟩) 7 7) rfl (by kernel_rfl) (by kernel_rfl) (by kernel_rfl) (fun _ _ _ h => h) (Or.inl ⟨rfl, fun w' h => by go_simp; try rfl⟩) hS ?_
    go_simp
    refine wpAnyH_done (by kernel_rfl) ?_ _
    refine hMet _ _ (Met.intro (hJ _ _ ?_))
    (repeat apply Exists.intro)
    refine ⟨?_, rfl⟩
    refine ⟨R_new y16 w.heap.size (Nat.lt_of_lt_of_le hRd.lt hGs) (rowTo s 0) (by simp [rowTo, headSn]), hRd.below hS hRd.lt, hbd.trans (hS.mono hbd.size)⟩

  · rw [if_neg hck] at hby
    have HBY := Sec.mk hby
    have HCK := Sec.mk hck
    clear hby hck
    generalize hcz : checkSn s = z at HCK ⊢
    have HCZ := Sec.mk hcz
    clear hcz
    have hz : (z != 0) = true := bne_iff_ne.2 HCK.out
    have hz2 : ¬ z = 0 := HCK.out
    go_wp2_with fail
    go_ret2
    have e9 : checkSn s = z := HCZ.out
    exact ⟨by rw [HBY.out, e9]; rfl, hb1⟩
end Go.Proofs.YtokcmaehojljdaaDoor

/- (*strings.Builder).WriteByte and hash.Hex: their walks. -/
namespace Go.Proofs.YtokcmaehojljdaaDoor
open Go.RowKit Go.Proofs.YtokcmaehojljdaaDoorW.PrintWords Go.Proofs.YtokcmaehojljdaaDoorW.PrintLast Go.Proofs.YtokcmaehojljdaaDoorW.PrintMore
open Cc (g)

set_option maxHeartbeats 2000000 in
set_option maxRecDepth 100000 in
theorem writeByte_any {w : World} {B b : Nat} {L : List Value} (h : Lib.IsBuilder 66 5 B b L w) (c : Int) (hlen : L.length + 1 ≤ 140737488355328) (hBw : B ≤ w.heap.size) :
    Calls Tryd.prog 85 #[.pointer (some ⟨b, 0, none⟩), .int .u8 c] w fun e w' => (∃ v, e = .returned v) ∧ Lib.IsBuilder 66 5 B b (L ++ [.int .u8 c]) w' ∧ Below B w w' := by
  go_enter Tryd.func85, Tryd.ntmps85
  go_upto_region 1 with (fail)
  go_wp2_with fail
  refine (copyCheck_any h).mono ?_
  rintro e w1 ⟨rfl, hb, hbel, hw1⟩
  obtain ⟨A, cc, hr, ho, hn⟩ := Bd_parts hb
  have k1 : w1.cell? ⟨b, 1, none⟩ = some (.slice A L.length cc) := cell_of_row w1 b 1 _ 66 _ hr
  obtain ⟨i5, hi5, hi5'⟩ := Option.map_eq_some_iff.1 PWire.info5
  simp only [Prod.mk.injEq] at hi5'
  obtain ⟨hi5z, hi5s, hi5b⟩ := hi5'
  have hB1 : B ≤ w1.heap.size := Nat.le_trans hBw hbel.size
  have hbl := hb.lt
  clear hw1
  go_wp2_with ((with_reducible refine gate_builtin (b := .append) (xs := #[.tmp 11, .tmp 13]) rfl ?_); at_builtin; refine print_append_cells (w0 := w) (W := w1) B rfl (.tmp 11) (.tmp 13) 42 5 (.int .u8 0) 1 1 rfl Tryd.underlying42 PWire.info5 rfl (by decide) (by decide) _ L.length L [.int .u8 c] rfl rfl rfl (fun u hu => by rw [List.mem_singleton.1 hu]; rfl) ho hbel hB1 (by omega) ?_)
  intro v2 w2 hown hb2 hgrow hat
  have hr2 : w2.heap[b]? = some (.cells #[.pointer (some ⟨b, 0, none⟩), .slice A L.length cc] 66 (0, 0)) := (hgrow.block b hbl (fun e => hn e.symm)).trans hr
  have k2 : w2.cell? ⟨b, 1, none⟩ = some (.slice A L.length cc) := cell_of_row w2 b 1 _ 66 _ hr2
  have f2 : w2.frozen? ⟨b, 1, none⟩ = false := frozen_of_row w2 b 1 _ 66 hr2
  have hgb : v2.ownBlock ≠ some b := by
    intro e
    rcases hat with e' | ⟨g, e', hg⟩
    · exact hn (by rw [← e', e])
    · rw [e'] at e
      have : g = b := Option.some.inj e
      omega
  obtain ⟨A2, c2, rfl⟩ := own_slice hown
  clear k1
  go_wp2_with fail
  go_ret
  have hb3 : Lib.BuilderAt 66 5 B b (.pointer (some ⟨b, 0, none⟩)) (L ++ [.int .u8 c]) (w2.setCell ⟨b, 1, none⟩ (.slice A2 (L.length + 1) c2)) := by
    refine ⟨hb.1, .slice A2 (L.length + 1) c2, heap_setCell_same w2 b 1 _ 66 _ hr2, ?_, hgb⟩
    rw [List.length_append, List.length_singleton]
    exact own_move hown (fun k hk => heap_setCell_other w2 ⟨b, 1, none⟩ k _ (fun e => hgb (by rw [hk]; exact congrArg some e)))
  exact ⟨⟨_, rfl⟩, .inr hb3, hb2.setCell hb.1 _⟩
theorem load_list26 {w : World} {b : Nat} {X : List UInt8} (h : Row w b 26 (Lib.byteCells X).toArray) (hX : X.length = 32) : (loadVar 26 ⟨b, 0, none⟩).run Tryd.prog w = .ok (.agg (Lib.byteCells X).toArray) w :=
  run_load_list (P := Tryd.prog) w b 0 26 26 (Lib.byteCells X) (Lib.byteCells X) _ h (fun j v hv => by rw [Nat.zero_add]; exact hv) Tryd.underlying26 rfl (by rw [Lib.byteCells_length, hX]; kernel_rfl)
theorem idx26 (X : List UInt8) (hX : X.length = 32) (i : Nat) (u : UInt8) (hu : X[i]? = some u) (W : World) : (Instr.index 26 (.agg (Lib.byteCells X).toArray) (.int .i64 i)).run Tryd.prog W = .ok (.int .u8 (u.toNat : Int)) W := by
  obtain ⟨j, hj, hjj⟩ := Option.map_eq_some_iff.1 PWire.info5
  simp only [Prod.mk.injEq] at hjj
  obtain ⟨_, hs, _⟩ := hjj
  have hi : i < 32 := by rw [← hX]; exact (List.getElem?_eq_some_iff.1 hu).1
  have hc : (Lib.byteCells X)[i]? = some (.int .u8 (u.toNat : Int)) := by simp [Lib.byteCells, hu]
  have hl : (Lib.byteCells X).length = 32 := by rw [Lib.byteCells_length, hX]
  have hg : ((Lib.byteCells X).toArray)[i]? = some (.int .u8 (u.toNat : Int)) := by simpa using hc
  unfold Instr.index
  simp [asIntOf, run_underlying Tryd.underlying26, part, isAgg, run_underlying Tryd.underlying5, Sem.run_bind, sizeOf, typeInfo, hj, hs, hc]
  intro h
  omega
theorem and15 : ∀ a : Fin 256, Go.bits .and .u8 (a.val : Int) 15 = ((a.val % 16 : Nat) : Int) := by decide +kernel
theorem idx_hex (a : Nat) (ha : a < 16) (W : World) : (Instr.index 9 (.string ⟨#[48, 49, 50, 51, 52, 53, 54, 55, 56, 57, 97, 98, 99, 100, 101, 102]⟩) (.int .u8 (a : Int))).run Tryd.prog W = .ok (.int .u8 ((hexT.data.toList.getD a 0).toNat : Int)) W := by
  have hl : a < hexT.size := ha
  have h1 : hexT[a]? = some (hexT[a]'hl) := by simp [hl]
  have h2 : hexT.data.toList.getD a 0 = hexT[a]'hl := by
    have : a < hexT.data.toList.length := by simpa using hl
    rw [List.getD_eq_getElem?_getD, List.getElem?_eq_getElem this]
    rfl
  rw [h2]
  show (Instr.index 9 (.string hexT) (.int .u8 (a : Int))).run Tryd.prog W = _
  unfold Instr.index
  simp [asIntOf, run_underlying Tryd.underlying9, h1]
theorem hexCells_next (X : List UInt8) (i : Nat) (u : UInt8) (h : X[i]? = some u) : Lib.byteCells ((X.take i).flatMap hx2) ++ [.int .u8 ((hexT.data.toList.getD (u.toNat / 16) 0).toNat : Int)] ++ [.int .u8 ((hexT.data.toList.getD (u.toNat % 16) 0).toNat : Int)] = Lib.byteCells ((X.take (i + 1)).flatMap hx2) := by
  have : X.take (i + 1) = X.take i ++ [u] := by rw [List.take_add_one, h]; rfl
  rw [this, List.flatMap_append]
  simp [Lib.byteCells, hx2]
theorem flat2_len (X : List UInt8) : (X.flatMap hx2).length = 2 * X.length := by
  have := hexS_len X
  unfold hexS at this
  rw [bytes_size] at this
  exact this
set_option maxHeartbeats 4000000 in
set_option maxRecDepth 100000 in
theorem hex_any (X : List UInt8) (hX : X.length = 32) (w : World) : Calls Tryd.prog 72 #[.agg (Lib.byteCells X).toArray] w fun e w' => e = .returned (.string (hexS X)) ∧ Below w.heap.size w w' := by
  have hR := (Row.new w (Lib.byteCells X).toArray 26).alloc (.cells #[.pointer none, .slice none 0 0] 66)
  have hb0 := ((Below.refl w.heap.size w).alloc (Nat.le_refl _) (.cells (Lib.byteCells X).toArray 26)).alloc (by rw [size_alloc]; omega) (.cells #[.pointer none, .slice none 0 0] 66)
  have hB0 : Lib.IsBuilder 66 5 (w.alloc (.cells (Lib.byteCells X).toArray 26)).heap.size (w.alloc (.cells (Lib.byteCells X).toArray 26)).heap.size (Lib.byteCells ((X.take 0).flatMap hx2)) ((w.alloc (.cells (Lib.byteCells X).toArray 26)).alloc (.cells #[.pointer none, .slice none 0 0] 66)) :=
    .inl ⟨Nat.le_refl _, .slice none 0 0, heap_alloc_new _ _, by simp [Lib.byteCells]; exact World.ownsRow_nil _ _ _ _, by simp [Value.ownBlock]⟩
  have hsb : (w.alloc (.cells (Lib.byteCells X).toArray 26)).heap.size = w.heap.size + 1 := size_alloc _ _
  rw [hsb] at hB0
  go_enter Tryd.func72, Tryd.ntmps72
  go_upto_region 2 with (fail)
  refine wp_abs (fun W HW => ?_)
  rw [← HW.out] at hR hb0 hB0
  clear HW
  have hld := load_list26 hR hX
  go_wp2_with (refine wpList_load_list rfl 26 (.tmp 1) rfl w.heap.size 0 rfl _ hld ?_)
  clear hld hR
  have hle : w.heap.size ≤ w.heap.size + 1 := by omega
  generalize w.heap.size + 1 = b at *
  clear hsb
  go_loopw [7] (fun v7 wr => ∃ i : Nat, i ≤ 32 ∧ v7 = .int .i64 i ∧ Lib.IsBuilder 66 5 b b (Lib.byteCells ((X.take i).flatMap hx2)) wr ∧ Below w.heap.size w wr) (fun v7 _ => 32 - (intOf v7).toNat)
  case atStart => exact ⟨0, by omega, rfl, hB0, hb0⟩
  case round =>
    clear hB0 hb0
    obtain ⟨i, hi, rfl, hB, hb⟩ := hrel
    by_cases hlt : i < 32
    · have hd : decide ((i : Int) < 32) = true := decide_eq_true (by omega)
      obtain ⟨u, hu⟩ : ∃ u, X[i]? = some u := ⟨X[i]'(by omega), List.getElem?_eq_getElem (by omega)⟩
      have hul := u.toNat_lt
      have hix := idx26 X hX i u hu
      have hnx := hexCells_next X i u hu
      have hlen : (Lib.byteCells ((X.take i).flatMap hx2)).length ≤ 64 := by rw [Lib.byteCells_length, flat2_len, List.length_take]; omega
      have hi1 := idx_hex (u.toNat / 16) (by omega)
      have hi2 := idx_hex (u.toNat % 16) (by omega)
      have hbw : b < wr.heap.size := by rcases hB with h | h <;> exact h.lt
      have HNX := Sec.mk hnx
      have HU := Sec.mk hul
      clear hnx hu hul
      generalize Lib.byteCells ((X.take i).flatMap hx2) = L at *
      generalize hexT.data.toList.getD (u.toNat / 16) 0 = c1 at *
      generalize hexT.data.toList.getD (u.toNat % 16) 0 = c2 at *
      generalize u.toNat = x at *
      have e3 := and15 ⟨x, HU.out⟩
      simp only [] at e3
      have hxl := HU.out
      have e1 : (x : Int) / 16 = ((x / 16 : Nat) : Int) := by omega
      have e2 : (x : Int) % 16 = ((x % 16 : Nat) : Int) := by omega
      generalize x / 16 = a1 at *
      generalize x % 16 = a2 at *
      go_wp2_with fail
      refine (writeByte_any hB _ (by omega) (Nat.le_of_lt hbw)).mono ?_
      rintro e w2 ⟨⟨v, rfl⟩, hB2, hb2⟩
      have hbw2 : b < w2.heap.size := by rcases hB2 with h | h <;> exact h.lt
      replace hb2 := hb.trans (hb2.mono hle)
      clear hB hb hbw hix hi1 e1
      go_wp2_with fail
      refine (writeByte_any hB2 _ (by rw [List.length_append, List.length_singleton]; omega) (Nat.le_of_lt hbw2)).mono ?_
      rintro e w3 ⟨⟨v2, rfl⟩, hB3, hb3⟩
      replace hb3 := hb2.trans (hb3.mono hle)
      rw [HNX.out] at hB3
      clear hB2 hb2 hbw2
      go_wp2_with fail
      go_roundw
      case rel => exact ⟨i + 1, by omega, by go_num, hB3, hb3⟩
      case measure => simp [intOf]; omega
    · have hd : decide ((i : Int) < 32) = false := decide_eq_false (by omega)
      obtain rfl : i = 32 := by omega
      rw [List.take_of_length_le (by omega)] at hB
      have hbw : b < wr.heap.size := by rcases hB with h | h <;> exact h.lt
      go_wp2_with fail
      refine (Tryd.Builder_String_any b b (X.flatMap hx2) _ hB (Nat.le_of_lt hbw)).mono ?_
      rintro e w7 ⟨rfl, hb7⟩
      go_wp2_with fail
      go_ret
      exact ⟨rfl, hb.trans (hb7.mono hle)⟩
end Go.Proofs.YtokcmaehojljdaaDoor
