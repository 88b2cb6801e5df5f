/- manifest.Check: its walk. -/
import Derived.Test.YtokcmaehojljdaaDoorContains
import Derived.Test.YtokcmaehojljdaaDoorMach
import Derived.Test.YtokcmaehojljdaaDoorEmpty
namespace Go.Proofs.YtokcmaehojljdaaDoor
open Go.RowKit Go.Shelf Go.Proofs.YtokcmaehojljdaaDoorW.PrintWords Go.Proofs.YtokcmaehojljdaaDoorW.PrintLast Go.Proofs.YtokcmaehojljdaaDoorW.PrintMore

theorem idx3 (v : Nat → Value) (i : Nat) (hi : i < 3) (W : World) : (Instr.index 24 (.agg #[v 0, v 1, v 2]) (.int .i64 i)).run Tryd.prog W = .ok (v i) W := by
  obtain ⟨j, hj, hs⟩ : ∃ j, Tryd.prog.info? 23 = some j ∧ j.size = 1 := by
    have e : (Tryd.prog.info? 23).map (·.size) = some 1 := by kernel_rfl
    obtain ⟨j, hj, hs⟩ := Option.map_eq_some_iff.1 e
    exact ⟨j, hj, hs⟩
  have h : i = 0 ∨ i = 1 ∨ i = 2 := by omega
  rcases h with rfl | rfl | rfl
  all_goals
    unfold Instr.index
    simp [asIntOf, run_underlying Tryd.underlying24, part, isAgg, run_underlying Tryd.underlying23, Sem.run_bind, sizeOf, typeInfo, hj, hs]
theorem sn_lists {w : World} {b : Nat} {s : Sn} {v0 v1 v2 : Value} (h : Row w b 28 (snL s v0 v1 v2).toArray) : (loadVar 24 ⟨b, 6, none⟩).run Tryd.prog w = .ok (.agg #[v0, v1, v2]) w :=
  run_load_list w b 6 28 24 _ [v0, v1, v2] _ h (fun j v hv => by
    have hj := (List.getElem?_eq_some_iff.1 hv).1
    have h : j = 0 ∨ j = 1 ∨ j = 2 := by simp at hj; omega
    rcases h with rfl | rfl | rfl <;> exact hv) Tryd.underlying24 rfl (by kernel_rfl)
def lst (s : Sn) (i : Nat) : List ByteArray := match i with | 0 => s.l0 | 1 => s.l1 | _ => s.l2
def sumTo (s : Sn) (i : Nat) : Nat := match i with | 0 => 0 | 1 => s.l0.length | 2 => s.l0.length + s.l1.length | _ => s.l0.length + s.l1.length + s.l2.length
theorem sumTo_next (s : Sn) (i : Nat) (h : i < 3) : sumTo s (i + 1) = sumTo s i + (lst s i).length := by
  have h : i = 0 ∨ i = 1 ∨ i = 2 := by omega
  rcases h with rfl | rfl | rfl <;> simp [sumTo, lst]
/-- The lists, each with what its value is. -/
theorem lists_at {w : World} {s : Sn} {v0 v1 v2 : Value} (h : SnOk w s v0 v1 v2) : ∃ (A : Nat → Option Addr) (c : Nat → Nat), v0 = .slice (A 0) (lst s 0).length (c 0) ∧ v1 = .slice (A 1) (lst s 1).length (c 1) ∧ v2 = .slice (A 2) (lst s 2).length (c 2) ∧
    ∀ i, i < 3 → (lst s i).length ≤ c i ∧ Kd.C Kd.string w (A i) (lst s i).length (lst s i) ∧ (lst s i).length ≤ 140737488351232 ∧ ∀ x ∈ lst s i, x.size ≤ 140737488351232 := by
  obtain ⟨A0, c0, rfl, a1, a2, a3, a4⟩ := h.h0
  obtain ⟨A1, c1, rfl, b1, b2, b3, b4⟩ := h.h1
  obtain ⟨A2, c2, rfl, d1, d2, d3, d4⟩ := h.h2
  refine ⟨fun i => match i with | 0 => A0 | 1 => A1 | _ => A2, fun i => match i with | 0 => c0 | 1 => c1 | _ => c2, rfl, rfl, rfl, fun i hi => ?_⟩
  have h : i = 0 ∨ i = 1 ∨ i = 2 := by omega
  rcases h with rfl | rfl | rfl
  · exact ⟨a1, a2, a3, a4⟩
  · exact ⟨b1, b2, b3, b4⟩
  · exact ⟨d1, d2, d3, d4⟩
def inB (n lo hi : Int) : Bool := decide (lo ≤ n) && decide (n ≤ hi)
theorem within_any (a b c : Int) (w : World) : Calls Tryd.prog 47 #[.int .i64 a, .int .i64 b, .int .i64 c] w fun e w' => e = .returned (.bool (inB a b c)) ∧ Drawn0 w w' := by
  unfold inB
  refine PWire.manifest_within.calls a b c _ w ?_
  unfold PWire.manifest_within.f
  by_cases h : b ≤ a
  · rw [if_pos h, decide_eq_true h, Bool.true_and]
  · rw [if_neg h, decide_eq_false h, Bool.false_and]
def rangeB (s : Sn) : Bool := inB s.n 1 100000000 && inB s.at_ 0 1000000000000 && inB s.pages 1 64 && inB s.blocks 1 256
def badS (s : Sn) : Bool := anyBad s.l0 || anyBad s.l1 || anyBad s.l2
def checkSn (s : Sn) : Int := if machineB s.mach = false then 7 else if rangeB s = false then 2 else if 1000 < sumTo s 3 then 6 else if badS s = true then 3 else 0
set_option maxHeartbeats 4000000 in
set_option maxRecDepth 100000 in
theorem check_any (s : Sn) (v0 v1 v2 : Value) (w : World) (h : SnOk w s v0 v1 v2) :
    Calls Tryd.prog 26 #[.agg (snL s v0 v1 v2).toArray] w fun e w' => e = .returned (.int .i64 (checkSn s)) ∧ Below w.heap.size w w' := by
  obtain ⟨A, c, rfl, rfl, rfl, hl⟩ := lists_at h
  clear h
  have hR := Row.new w (snL s (.slice (A 0) (lst s 0).length (c 0)) (.slice (A 1) (lst s 1).length (c 1)) (.slice (A 2) (lst s 2).length (c 2))).toArray 28
  have hb0 := (Below.refl w.heap.size w).alloc (Nat.le_refl _) (.cells (snL s (.slice (A 0) (lst s 0).length (c 0)) (.slice (A 1) (lst s 1).length (c 1)) (.slice (A 2) (lst s 2).length (c 2))).toArray 28)
  have hlt0 : w.heap.size < (w.alloc (.cells (snL s (.slice (A 0) (lst s 0).length (c 0)) (.slice (A 1) (lst s 1).length (c 1)) (.slice (A 2) (lst s 2).length (c 2))).toArray 28)).heap.size := by rw [size_alloc]; omega
  go_enter Tryd.func26, Tryd.ntmps26
  go_upto_region 1 with (fail)
  refine wp_abs (fun W HW => ?_)
  rw [← HW.out] at hR hb0 hlt0
  clear HW
  have hck : checkSn s = if machineB s.mach = false then 7 else if rangeB s = false then 2 else if 1000 < sumTo s 3 then 6 else if badS s = true then 3 else 0 := rfl
  have HK := Sec.mk hck
  clear hck
  obtain ⟨k0, k1, k2, k3, k4, k5, k6, k7, k8⟩ := sn_cells hR
  go_wp2_with fail
  refine (machine_any s.mach _).mono ?_
  rintro e w1 ⟨rfl, hb1⟩
  have hR1 : Row w1 w.heap.size 28 _ := hR.below hb1 hlt0
  replace hb1 := hb0.trans (hb1.mono hb0.size)
  have hlt1 : w.heap.size < w1.heap.size := hR1.lt
  clear hR hb0 hlt0 k0 k1 k2 k3 k4 k5 k6 k7 k8
  generalize hm : machineB s.mach = bm
  cases bm with
  | false =>
    go_wp2_with fail
    go_ret
    exact ⟨by rw [HK.out, if_pos hm]; rfl, hb1⟩
  | true =>
    obtain ⟨k0, k1, k2, k3, k4, k5, k6, k7, k8⟩ := sn_cells hR1
    go_upto_region 3 with (fail)
    have hrb : rangeB s = (inB s.n 1 100000000 && inB s.at_ 0 1000000000000 && inB s.pages 1 64 && inB s.blocks 1 256) := rfl
    generalize e1 : inB s.n 1 100000000 = b1 at hrb
    generalize e2 : inB s.at_ 0 1000000000000 = b2 at hrb
    generalize e3 : inB s.pages 1 64 = b3 at hrb
    generalize e4 : inB s.blocks 1 256 = b4 at hrb
    have HRB := Sec.mk hrb
    have HM := Sec.mk hm
    clear hrb hm
    go_cut [13] (fun v13 wc => v13 = .bool (!(b1 && b2 && b3 && b4)) ∧ Row wc w.heap.size 28 (snL s (.slice (A 0) (lst s 0).length (c 0)) (.slice (A 1) (lst s 1).length (c 1)) (.slice (A 2) (lst s 2).length (c 2))).toArray ∧ Below w.heap.size w wc)
    case first =>
      cases b1 with
      | false =>
        go_wp2_with (go_at_call 47; refine (within_any _ _ _ _).mono ?_; rintro e w' ⟨rfl, ⟨nd, rfl⟩⟩)
        go_meet
        exact ⟨rfl, hR1.drewN _, below_drewN' hb1 _⟩
      | true =>
      cases b2 with
      | false =>
        go_wp2_with (go_at_call 47; refine (within_any _ _ _ _).mono ?_; rintro e w' ⟨rfl, ⟨nd, rfl⟩⟩)
        go_meet
        exact ⟨rfl, hR1.drewN _, below_drewN' hb1 _⟩
      | true =>
      cases b3 with
      | false =>
        go_wp2_with (go_at_call 47; refine (within_any _ _ _ _).mono ?_; rintro e w' ⟨rfl, ⟨nd, rfl⟩⟩)
        go_meet
        exact ⟨rfl, hR1.drewN _, below_drewN' hb1 _⟩
      | true =>
        go_wp2_with (go_at_call 47; refine (within_any _ _ _ _).mono ?_; rintro e w' ⟨rfl, ⟨nd, rfl⟩⟩)
        go_meet
        exact ⟨by simp, hR1.drewN _, below_drewN' hb1 _⟩
    case rest =>
      clear k0 k1 k2 k3 k4 k5 k6 k7 k8 e1 e2 e3 e4 hR1 hb1 hlt1
      obtain ⟨rfl, hR, hb⟩ := hcut
      replace HRB := Sec.mk HRB.out.symm
      generalize (b1 && b2 && b3 && b4) = rb at HRB ⊢
      cases rb with
      | false =>
        go_wp2_with fail
        go_ret
        exact ⟨by rw [HK.out, HM.out, if_neg (by decide), if_pos HRB.out.symm]; rfl, hb⟩
      | true =>
        have hls := sn_lists hR
        go_wp2_with (refine wpList_load_list rfl 24 (.tmp 36) rfl w.heap.size 6 rfl _ hls ?_)
        have hix := idx3 (fun i => .slice (A i) (lst s i).length (c i))
        go_loopw [3, 38] (fun v3 v38 wr => ∃ i : Nat, i ≤ 3 ∧ v38 = .int .i64 i ∧ v3 = .int .i64 (sumTo s i : Nat) ∧ Row wr w.heap.size 28 (snL s (.slice (A 0) (lst s 0).length (c 0)) (.slice (A 1) (lst s 1).length (c 1)) (.slice (A 2) (lst s 2).length (c 2))).toArray ∧ Below w.heap.size w wr) (fun _ v38 _ => 3 - (intOf v38).toNat)
        case atStart => exact ⟨0, by omega, rfl, rfl, hR, hb⟩
        case round =>
          clear hR hb hls
          obtain ⟨i, hi, rfl, rfl, hR, hb⟩ := hrel
          by_cases hlt : i < 3
          · have hd : decide ((i : Int) < 3) = true := decide_eq_true (by omega)
            have hixi := hix i hlt
            have hnx := sumTo_next s i hlt
            have hli := (hl i hlt).2.2.1
            have hs3 : sumTo s i ≤ 422212465065984 := by
              have h := (hl 0 (by omega)).2.2.1
              have h' := (hl 1 (by omega)).2.2.1
              have h'' := (hl 2 (by omega)).2.2.1
              have hc : i = 0 ∨ i = 1 ∨ i = 2 := by omega
              rcases hc with rfl | rfl | rfl <;> simp [sumTo, lst] at * <;> omega
            clear hix
            go_wp2_with fail
            go_roundw
            case rel => exact ⟨i + 1, by omega, by go_num, by rw [hnx]; go_num, hR, hb⟩
            case measure => simp [intOf]; omega
          · have hd : decide ((i : Int) < 3) = false := decide_eq_false (by omega)
            obtain rfl : i = 3 := by omega
            have hrb : ¬ (rangeB s = false) := by rw [← HRB.out]; decide
            have hmb : ¬ (machineB s.mach = false) := by rw [HM.out]; decide
            have HX := Sec.mk (HK.out.trans ((if_neg hmb).trans (if_neg hrb)))
            clear hrb hmb HK HM HRB
            by_cases h1000 : 1000 < sumTo s 3
            · have hd2 : decide ((1000 : Int) < (sumTo s 3 : Nat)) = true := decide_eq_true (by omega)
              have hd3 : (1000 : Int) < (sumTo s 3 : Nat) := by omega
              have HV := Sec.mk (HX.out.trans (if_pos h1000))
              clear HX
              generalize sumTo s 3 = n3 at *
              go_wp2_with fail
              go_ret
              exact ⟨by rw [HV.out]; rfl, hb⟩
            · have hd2 : decide ((1000 : Int) < (sumTo s 3 : Nat)) = false := decide_eq_false (by omega)
              have hd3 : ¬ (1000 : Int) < (sumTo s 3 : Nat) := by omega
              have HV := Sec.mk (HX.out.trans (if_neg h1000))
              clear HX
              generalize sumTo s 3 = n3 at *
              have hls := sn_lists hR
              go_wp2_with (refine wpList_load_list rfl 24 (.tmp 48) rfl w.heap.size 6 rfl _ hls ?_)
              clear hd2 hd3
              go_loopw [50] (fun v50 wr => ∃ i : Nat, i ≤ 3 ∧ v50 = .int .i64 i ∧ Below w.heap.size w wr ∧ ∀ j, j < i → anyBad (lst s j) = false) (fun v50 _ => 3 - (intOf v50).toNat)
              case atStart => exact ⟨0, by omega, rfl, hb, fun j hj => absurd hj (Nat.not_lt_zero _)⟩
              case round =>
                clear hR hb hls
                obtain ⟨i, hi, rfl, hb, hgood⟩ := hrel
                by_cases hlt : i < 3
                · have hd : decide ((i : Int) < 3) = true := decide_eq_true (by omega)
                  have hixi := hix i hlt
                  obtain ⟨hli, hC, hln, _⟩ := hl i hlt
                  have hC' := Kd.C_below hC hb
                  clear hix
                  go_wp2_with fail
                  refine (contains_any (A i) (c i) (lst s i) _ hC' hln).mono ?_
                  rintro e w2 ⟨rfl, hb2⟩
                  replace hb2 := hb.trans (hb2.mono hb.size)
                  cases hbad : anyBad (lst s i) with
                  | true =>
                    have hs : badS s = true := by
                      have hc : i = 0 ∨ i = 1 ∨ i = 2 := by omega
                      unfold badS
                      rcases hc with rfl | rfl | rfl
                      · have h : anyBad s.l0 = true := hbad
                        rw [h]; simp
                      · have h : anyBad s.l1 = true := hbad
                        rw [h]; simp
                      · have h : anyBad s.l2 = true := hbad
                        rw [h]; simp
                    go_wp2_with fail
                    go_ret
                    exact ⟨by rw [HV.out, if_pos hs]; rfl, hb2⟩
                  | false =>
                    go_wp2_with fail
                    go_roundw
                    case rel =>
                      refine ⟨i + 1, by omega, by go_num, hb2, fun j hj => ?_⟩
                      by_cases hji : j = i
                      · rw [hji]; exact hbad
                      · exact hgood j (by omega)
                    case measure => simp [intOf]; omega
                · have hd : decide ((i : Int) < 3) = false := decide_eq_false (by omega)
                  have hs : badS s = false := by
                    have h0 : anyBad s.l0 = false := hgood 0 (by omega)
                    have h1 : anyBad s.l1 = false := hgood 1 (by omega)
                    have h2 : anyBad s.l2 = false := hgood 2 (by omega)
                    unfold badS
                    rw [h0, h1, h2]; rfl
                  go_wp2_with fail
                  go_ret
                  exact ⟨by rw [HV.out, hs]; rfl, hb⟩
end Go.Proofs.YtokcmaehojljdaaDoor
