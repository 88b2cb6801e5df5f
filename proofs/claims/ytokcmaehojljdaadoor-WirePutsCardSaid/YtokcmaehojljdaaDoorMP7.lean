/- One text of several: RefAlone; RefWChk; WkCuts; RefPut; PutsPure; WkPuts; OpenMs. -/
import Derived.Test.YtokcmaehojljdaaDoorMP6
import Derived.Test.YtokcmaehojljdaaDoorMP5
import Derived.Test.YtokcmaehojljdaaDoorMP1
import Derived.WalkKit
import Derived.ProofKit
import Derived.OpenShut

/- The reference's alone: its walk. -/
namespace Go.Proofs.YtokcmaehojljdaaDoor
open Go.RowKit Go.Shelf Go.Proofs.YtokcmaehojljdaaDoorW.PrintWords Go.Proofs.YtokcmaehojljdaaDoorW.PrintLast Go.Proofs.YtokcmaehojljdaaDoorW.PrintMore

set_option maxHeartbeats 8000000 in
set_option maxRecDepth 100000 in
theorem alone_any (m : Ms) (v0 v1 v2 : Value) (w : World) (h : MsOk w m v0 v1 v2) (hkk : 1 ≤ m.kind ∧ m.kind ≤ 6) :
    Calls Tryd.prog 27 #[.agg (msL m v0 v1 v2).toArray] w fun e w' => e = .returned (.bool (goodHas m)) ∧ Below w.heap.size w w' := by
  have hs := h.snap.hs
  have HE := Sec.mk (fun w' (hb : Below w.heap.size w w') => plain_any m.snap v0 v1 v2 w' (h.snap.below hb))
  have hM0 := Row.new w (msL m v0 v1 v2).toArray 31
  have hb0 := (Below.refl w.heap.size w).alloc (Nat.le_refl _) (.cells (msL m v0 v1 v2).toArray 31)
  clear h
  go_enter Tryd.func27, Tryd.ntmps27
  go_upto_region 1 with (fail)
  refine wp_abs (fun W HW => ?_)
  rw [← HW.out] at hM0 hb0
  clear HW
  obtain ⟨d, hd⟩ : ∃ d, d = !m.data.toList.isEmpty := ⟨_, rfl⟩
  obtain ⟨nn, hnn⟩ : ∃ d, d = (m.n != 0) := ⟨_, rfl⟩
  obtain ⟨yy, hyy⟩ : ∃ d, d = (m.why != 0) := ⟨_, rfl⟩
  obtain ⟨em, hem⟩ : ∃ em, em = emptyB m.snap := ⟨_, rfl⟩
  have HG : Sec (goodHas m = ((((d && may1 m.kind) == d) && (((!em) && (m.kind == 3)) == (!em)) && ((nn && (m.kind == 4)) == nn) && ((yy && (m.kind == 5)) == yy)))) := ⟨by rw [hd, hnn, hyy, hem]; rfl⟩
  have HD := Sec.mk hd
  have HN := Sec.mk hnn
  have HY := Sec.mk hyy
  have HM := Sec.mk hem
  clear hd hnn hyy hem
  have RM := Sec.mk (fun w' (h : Below W.heap.size W w') => hM0.below h hM0.lt)
  have CM := Sec.mk (fun w' (h : Below W.heap.size W w') => ms_cells (hM0.below h hM0.lt) hs)
  refine wp_region_below W.heap.size (by kernel_rfl) (by kernel_rfl) ?_
  refine wpQuiet_step (fun K hK => ?_)
  refine wq_value (v := .pointer (some ⟨w.heap.size, 1, none⟩)) rfl (fun w' h => by go_simp; try rfl) ?_
  go_simp
  refine hK _ ?_
  clear hK K
  refine wpQuiet_step (fun K hK => ?_)
  refine wq_value (v := .string m.data) rfl (fun w' h => by have c := (CM.out w' h).2.1; go_simp; try rfl) ?_
  go_simp
  refine hK _ ?_
  clear hK K
  refine wpQuiet_step (fun K hK => ?_)
  refine wq_value (v := .bool d) rfl (fun w' h => by have e := HD.out; go_simp; try first | rfl | (rw [e]; done) | (rw [e]; rfl) | (simp [e]; done)) ?_
  go_simp
  refine hK _ ?_
  clear hK K
  refine wpQuiet_step (fun K hK => ?_)
  refine wq_value (v := .pointer (some ⟨w.heap.size, 2, none⟩)) rfl (fun w' h => by go_simp; try rfl) ?_
  go_simp
  refine hK _ ?_
  clear hK K
  refine wpQuiet_step (fun K hK => ?_)
  refine wq_load_list rfl 28 (.tmp 10) rfl w.heap.size 2 rfl _ (fun w' h => ms_snap (RM.out w' h) hs) ?_
  go_simp
  refine hK _ ?_
  clear hK K
  refine wpQuiet_step (fun K hK => ?_)
  refine wq_call (v := .bool em) (f := 50) (args := #[.agg (snL m.snap v0 v1 v2).toArray]) rfl (fun _ _ => by go_simp) (fun w' hC => (HE.out w' (hb0.trans (hC.mono hb0.size))).mono (fun e w'' ⟨h1, h2⟩ => ⟨by rw [h1, ← HM.out], hC.trans (h2.mono hC.size)⟩)) ?_
  go_simp
  refine hK _ ?_
  clear hK K
  refine wpQuiet_step (fun K hK => ?_)
  refine wq_value (v := .bool !em) rfl (fun w' h => by go_simp; try rfl) ?_
  go_simp
  refine hK _ ?_
  clear hK K
  refine wpQuiet_step (fun K hK => ?_)
  refine wq_value (v := .pointer (some ⟨w.heap.size, 43, none⟩)) rfl (fun w' h => by go_simp; try rfl) ?_
  go_simp
  refine hK _ ?_
  clear hK K
  refine wpQuiet_step (fun K hK => ?_)
  refine wq_value (v := .int .i64 m.n) rfl (fun w' h => by have c := (CM.out w' h).2.2.1; go_simp; try rfl) ?_
  go_simp
  refine hK _ ?_
  clear hK K
  refine wpQuiet_step (fun K hK => ?_)
  refine wq_value (v := .bool nn) rfl (fun w' h => by have e := HN.out; go_simp; try first | rfl | (rw [e]; done) | (rw [e]; rfl) | (simp [e]; done)) ?_
  go_simp
  refine hK _ ?_
  clear hK K
  refine wpQuiet_step (fun K hK => ?_)
  refine wq_value (v := .pointer (some ⟨w.heap.size, 44, none⟩)) rfl (fun w' h => by go_simp; try rfl) ?_
  go_simp
  refine hK _ ?_
  clear hK K
  refine wpQuiet_step (fun K hK => ?_)
  refine wq_value (v := .int .i64 m.why) rfl (fun w' h => by have c := (CM.out w' h).2.2.2; go_simp; try rfl) ?_
  go_simp
  refine hK _ ?_
  clear hK K
  refine wpQuiet_step (fun K hK => ?_)
  refine wq_value (v := .bool yy) rfl (fun w' h => by have e := HY.out; go_simp; try first | rfl | (rw [e]; done) | (rw [e]; rfl) | (simp [e]; done)) ?_
  go_simp
  refine hK _ ?_
  clear hK K
  refine wpQuiet_step (fun K hK => ?_)
  refine wq_value (v := .bool d) rfl (fun w' h => by go_simp; try rfl) ?_
  go_simp
  refine hK _ ?_
  clear hK K
  refine wpQuiet_step (fun K hK => ?_)
  refine wq_value (v := .bool !em) rfl (fun w' h => by go_simp; try rfl) ?_
  go_simp
  refine hK _ ?_
  clear hK K
  refine wpQuiet_step (fun K hK => ?_)
  refine wq_value (v := .bool nn) rfl (fun w' h => by go_simp; try rfl) ?_
  go_simp
  refine hK _ ?_
  clear hK K
  refine wpQuiet_step (fun K hK => ?_)
  refine wq_value (v := .bool yy) rfl (fun w' h => by go_simp; try rfl) ?_
  go_simp
  refine hK _ ?_
  clear hK K
  refine wpQuiet_nil ?_
  go_simp
  intro w5 hb5'
  have hM5 := RM.out _ hb5'
  have hb5 := hb0.trans (hb5'.mono hb0.size)
  obtain ⟨k0, -, -, -⟩ := ms_cells hM5 hs
  clear RM CM hM0 hb0 hb5' HD HN HY HM HE hM5
  generalize m.kind = k at *
  have hkc : k = 1 ∨ k = 2 ∨ k = 3 ∨ k = 4 ∨ k = 5 ∨ k = 6 := by omega
  clear hkk
  rcases hkc with hk | hk | hk | hk | hk | hk
  · subst hk
    cases em with
    | false =>
      go_wp2_with fail
      go_ret
      exact ⟨by rw [HG.out]; clear HG; first | rfl | (cases d <;> rfl) | (cases em <;> rfl) | (cases nn <;> rfl) | (cases yy <;> rfl) | (cases d <;> cases em <;> cases nn <;> cases yy <;> rfl) | (cases em <;> cases nn <;> cases yy <;> rfl) | (cases d <;> cases nn <;> cases yy <;> rfl) | (cases d <;> cases em <;> cases yy <;> rfl) | (cases d <;> cases em <;> cases nn <;> rfl) | (cases d <;> cases em <;> rfl) | (cases d <;> cases nn <;> rfl) | (cases d <;> cases yy <;> rfl) | (cases em <;> cases nn <;> rfl) | (cases em <;> cases yy <;> rfl) | (cases nn <;> cases yy <;> rfl), hb5⟩
    | true =>
      cases nn with
      | false =>
        cases yy with
        | false =>
          go_wp2_with fail
          go_ret
          exact ⟨by rw [HG.out]; clear HG; first | rfl | (cases d <;> rfl) | (cases em <;> rfl) | (cases nn <;> rfl) | (cases yy <;> rfl) | (cases d <;> cases em <;> cases nn <;> cases yy <;> rfl) | (cases em <;> cases nn <;> cases yy <;> rfl) | (cases d <;> cases nn <;> cases yy <;> rfl) | (cases d <;> cases em <;> cases yy <;> rfl) | (cases d <;> cases em <;> cases nn <;> rfl) | (cases d <;> cases em <;> rfl) | (cases d <;> cases nn <;> rfl) | (cases d <;> cases yy <;> rfl) | (cases em <;> cases nn <;> rfl) | (cases em <;> cases yy <;> rfl) | (cases nn <;> cases yy <;> rfl), hb5⟩
        | true =>
          go_wp2_with fail
          go_ret
          exact ⟨by rw [HG.out]; clear HG; first | rfl | (cases d <;> rfl) | (cases em <;> rfl) | (cases nn <;> rfl) | (cases yy <;> rfl) | (cases d <;> cases em <;> cases nn <;> cases yy <;> rfl) | (cases em <;> cases nn <;> cases yy <;> rfl) | (cases d <;> cases nn <;> cases yy <;> rfl) | (cases d <;> cases em <;> cases yy <;> rfl) | (cases d <;> cases em <;> cases nn <;> rfl) | (cases d <;> cases em <;> rfl) | (cases d <;> cases nn <;> rfl) | (cases d <;> cases yy <;> rfl) | (cases em <;> cases nn <;> rfl) | (cases em <;> cases yy <;> rfl) | (cases nn <;> cases yy <;> rfl), hb5⟩
      | true =>
        go_wp2_with fail
        go_ret
        exact ⟨by rw [HG.out]; clear HG; first | rfl | (cases d <;> rfl) | (cases em <;> rfl) | (cases nn <;> rfl) | (cases yy <;> rfl) | (cases d <;> cases em <;> cases nn <;> cases yy <;> rfl) | (cases em <;> cases nn <;> cases yy <;> rfl) | (cases d <;> cases nn <;> cases yy <;> rfl) | (cases d <;> cases em <;> cases yy <;> rfl) | (cases d <;> cases em <;> cases nn <;> rfl) | (cases d <;> cases em <;> rfl) | (cases d <;> cases nn <;> rfl) | (cases d <;> cases yy <;> rfl) | (cases em <;> cases nn <;> rfl) | (cases em <;> cases yy <;> rfl) | (cases nn <;> cases yy <;> rfl), hb5⟩
  · subst hk
    cases em with
    | false =>
      go_wp2_with fail
      go_ret
      exact ⟨by rw [HG.out]; clear HG; first | rfl | (cases d <;> rfl) | (cases em <;> rfl) | (cases nn <;> rfl) | (cases yy <;> rfl) | (cases d <;> cases em <;> cases nn <;> cases yy <;> rfl) | (cases em <;> cases nn <;> cases yy <;> rfl) | (cases d <;> cases nn <;> cases yy <;> rfl) | (cases d <;> cases em <;> cases yy <;> rfl) | (cases d <;> cases em <;> cases nn <;> rfl) | (cases d <;> cases em <;> rfl) | (cases d <;> cases nn <;> rfl) | (cases d <;> cases yy <;> rfl) | (cases em <;> cases nn <;> rfl) | (cases em <;> cases yy <;> rfl) | (cases nn <;> cases yy <;> rfl), hb5⟩
    | true =>
      cases nn with
      | false =>
        cases yy with
        | false =>
          go_wp2_with fail
          go_ret
          exact ⟨by rw [HG.out]; clear HG; first | rfl | (cases d <;> rfl) | (cases em <;> rfl) | (cases nn <;> rfl) | (cases yy <;> rfl) | (cases d <;> cases em <;> cases nn <;> cases yy <;> rfl) | (cases em <;> cases nn <;> cases yy <;> rfl) | (cases d <;> cases nn <;> cases yy <;> rfl) | (cases d <;> cases em <;> cases yy <;> rfl) | (cases d <;> cases em <;> cases nn <;> rfl) | (cases d <;> cases em <;> rfl) | (cases d <;> cases nn <;> rfl) | (cases d <;> cases yy <;> rfl) | (cases em <;> cases nn <;> rfl) | (cases em <;> cases yy <;> rfl) | (cases nn <;> cases yy <;> rfl), hb5⟩
        | true =>
          go_wp2_with fail
          go_ret
          exact ⟨by rw [HG.out]; clear HG; first | rfl | (cases d <;> rfl) | (cases em <;> rfl) | (cases nn <;> rfl) | (cases yy <;> rfl) | (cases d <;> cases em <;> cases nn <;> cases yy <;> rfl) | (cases em <;> cases nn <;> cases yy <;> rfl) | (cases d <;> cases nn <;> cases yy <;> rfl) | (cases d <;> cases em <;> cases yy <;> rfl) | (cases d <;> cases em <;> cases nn <;> rfl) | (cases d <;> cases em <;> rfl) | (cases d <;> cases nn <;> rfl) | (cases d <;> cases yy <;> rfl) | (cases em <;> cases nn <;> rfl) | (cases em <;> cases yy <;> rfl) | (cases nn <;> cases yy <;> rfl), hb5⟩
      | true =>
        go_wp2_with fail
        go_ret
        exact ⟨by rw [HG.out]; clear HG; first | rfl | (cases d <;> rfl) | (cases em <;> rfl) | (cases nn <;> rfl) | (cases yy <;> rfl) | (cases d <;> cases em <;> cases nn <;> cases yy <;> rfl) | (cases em <;> cases nn <;> cases yy <;> rfl) | (cases d <;> cases nn <;> cases yy <;> rfl) | (cases d <;> cases em <;> cases yy <;> rfl) | (cases d <;> cases em <;> cases nn <;> rfl) | (cases d <;> cases em <;> rfl) | (cases d <;> cases nn <;> rfl) | (cases d <;> cases yy <;> rfl) | (cases em <;> cases nn <;> rfl) | (cases em <;> cases yy <;> rfl) | (cases nn <;> cases yy <;> rfl), hb5⟩
  · subst hk
    cases d with
    | false =>
      cases nn with
      | false =>
        cases yy with
        | false =>
          go_wp2_with fail
          go_ret
          exact ⟨by rw [HG.out]; clear HG; first | rfl | (cases d <;> rfl) | (cases em <;> rfl) | (cases nn <;> rfl) | (cases yy <;> rfl) | (cases d <;> cases em <;> cases nn <;> cases yy <;> rfl) | (cases em <;> cases nn <;> cases yy <;> rfl) | (cases d <;> cases nn <;> cases yy <;> rfl) | (cases d <;> cases em <;> cases yy <;> rfl) | (cases d <;> cases em <;> cases nn <;> rfl) | (cases d <;> cases em <;> rfl) | (cases d <;> cases nn <;> rfl) | (cases d <;> cases yy <;> rfl) | (cases em <;> cases nn <;> rfl) | (cases em <;> cases yy <;> rfl) | (cases nn <;> cases yy <;> rfl), hb5⟩
        | true =>
          go_wp2_with fail
          go_ret
          exact ⟨by rw [HG.out]; clear HG; first | rfl | (cases d <;> rfl) | (cases em <;> rfl) | (cases nn <;> rfl) | (cases yy <;> rfl) | (cases d <;> cases em <;> cases nn <;> cases yy <;> rfl) | (cases em <;> cases nn <;> cases yy <;> rfl) | (cases d <;> cases nn <;> cases yy <;> rfl) | (cases d <;> cases em <;> cases yy <;> rfl) | (cases d <;> cases em <;> cases nn <;> rfl) | (cases d <;> cases em <;> rfl) | (cases d <;> cases nn <;> rfl) | (cases d <;> cases yy <;> rfl) | (cases em <;> cases nn <;> rfl) | (cases em <;> cases yy <;> rfl) | (cases nn <;> cases yy <;> rfl), hb5⟩
      | true =>
        go_wp2_with fail
        go_ret
        exact ⟨by rw [HG.out]; clear HG; first | rfl | (cases d <;> rfl) | (cases em <;> rfl) | (cases nn <;> rfl) | (cases yy <;> rfl) | (cases d <;> cases em <;> cases nn <;> cases yy <;> rfl) | (cases em <;> cases nn <;> cases yy <;> rfl) | (cases d <;> cases nn <;> cases yy <;> rfl) | (cases d <;> cases em <;> cases yy <;> rfl) | (cases d <;> cases em <;> cases nn <;> rfl) | (cases d <;> cases em <;> rfl) | (cases d <;> cases nn <;> rfl) | (cases d <;> cases yy <;> rfl) | (cases em <;> cases nn <;> rfl) | (cases em <;> cases yy <;> rfl) | (cases nn <;> cases yy <;> rfl), hb5⟩
    | true =>
      go_wp2_with fail
      go_ret
      exact ⟨by rw [HG.out]; clear HG; first | rfl | (cases d <;> rfl) | (cases em <;> rfl) | (cases nn <;> rfl) | (cases yy <;> rfl) | (cases d <;> cases em <;> cases nn <;> cases yy <;> rfl) | (cases em <;> cases nn <;> cases yy <;> rfl) | (cases d <;> cases nn <;> cases yy <;> rfl) | (cases d <;> cases em <;> cases yy <;> rfl) | (cases d <;> cases em <;> cases nn <;> rfl) | (cases d <;> cases em <;> rfl) | (cases d <;> cases nn <;> rfl) | (cases d <;> cases yy <;> rfl) | (cases em <;> cases nn <;> rfl) | (cases em <;> cases yy <;> rfl) | (cases nn <;> cases yy <;> rfl), hb5⟩
  · subst hk
    cases d with
    | false =>
      cases em with
      | false =>
        go_wp2_with fail
        go_ret
        exact ⟨by rw [HG.out]; clear HG; first | rfl | (cases d <;> rfl) | (cases em <;> rfl) | (cases nn <;> rfl) | (cases yy <;> rfl) | (cases d <;> cases em <;> cases nn <;> cases yy <;> rfl) | (cases em <;> cases nn <;> cases yy <;> rfl) | (cases d <;> cases nn <;> cases yy <;> rfl) | (cases d <;> cases em <;> cases yy <;> rfl) | (cases d <;> cases em <;> cases nn <;> rfl) | (cases d <;> cases em <;> rfl) | (cases d <;> cases nn <;> rfl) | (cases d <;> cases yy <;> rfl) | (cases em <;> cases nn <;> rfl) | (cases em <;> cases yy <;> rfl) | (cases nn <;> cases yy <;> rfl), hb5⟩
      | true =>
        cases yy with
        | false =>
          go_wp2_with fail
          go_ret
          exact ⟨by rw [HG.out]; clear HG; first | rfl | (cases d <;> rfl) | (cases em <;> rfl) | (cases nn <;> rfl) | (cases yy <;> rfl) | (cases d <;> cases em <;> cases nn <;> cases yy <;> rfl) | (cases em <;> cases nn <;> cases yy <;> rfl) | (cases d <;> cases nn <;> cases yy <;> rfl) | (cases d <;> cases em <;> cases yy <;> rfl) | (cases d <;> cases em <;> cases nn <;> rfl) | (cases d <;> cases em <;> rfl) | (cases d <;> cases nn <;> rfl) | (cases d <;> cases yy <;> rfl) | (cases em <;> cases nn <;> rfl) | (cases em <;> cases yy <;> rfl) | (cases nn <;> cases yy <;> rfl), hb5⟩
        | true =>
          go_wp2_with fail
          go_ret
          exact ⟨by rw [HG.out]; clear HG; first | rfl | (cases d <;> rfl) | (cases em <;> rfl) | (cases nn <;> rfl) | (cases yy <;> rfl) | (cases d <;> cases em <;> cases nn <;> cases yy <;> rfl) | (cases em <;> cases nn <;> cases yy <;> rfl) | (cases d <;> cases nn <;> cases yy <;> rfl) | (cases d <;> cases em <;> cases yy <;> rfl) | (cases d <;> cases em <;> cases nn <;> rfl) | (cases d <;> cases em <;> rfl) | (cases d <;> cases nn <;> rfl) | (cases d <;> cases yy <;> rfl) | (cases em <;> cases nn <;> rfl) | (cases em <;> cases yy <;> rfl) | (cases nn <;> cases yy <;> rfl), hb5⟩
    | true =>
      go_wp2_with fail
      go_ret
      exact ⟨by rw [HG.out]; clear HG; first | rfl | (cases d <;> rfl) | (cases em <;> rfl) | (cases nn <;> rfl) | (cases yy <;> rfl) | (cases d <;> cases em <;> cases nn <;> cases yy <;> rfl) | (cases em <;> cases nn <;> cases yy <;> rfl) | (cases d <;> cases nn <;> cases yy <;> rfl) | (cases d <;> cases em <;> cases yy <;> rfl) | (cases d <;> cases em <;> cases nn <;> rfl) | (cases d <;> cases em <;> rfl) | (cases d <;> cases nn <;> rfl) | (cases d <;> cases yy <;> rfl) | (cases em <;> cases nn <;> rfl) | (cases em <;> cases yy <;> rfl) | (cases nn <;> cases yy <;> rfl), hb5⟩
  · subst hk
    cases d with
    | false =>
      cases em with
      | false =>
        go_wp2_with fail
        go_ret
        exact ⟨by rw [HG.out]; clear HG; first | rfl | (cases d <;> rfl) | (cases em <;> rfl) | (cases nn <;> rfl) | (cases yy <;> rfl) | (cases d <;> cases em <;> cases nn <;> cases yy <;> rfl) | (cases em <;> cases nn <;> cases yy <;> rfl) | (cases d <;> cases nn <;> cases yy <;> rfl) | (cases d <;> cases em <;> cases yy <;> rfl) | (cases d <;> cases em <;> cases nn <;> rfl) | (cases d <;> cases em <;> rfl) | (cases d <;> cases nn <;> rfl) | (cases d <;> cases yy <;> rfl) | (cases em <;> cases nn <;> rfl) | (cases em <;> cases yy <;> rfl) | (cases nn <;> cases yy <;> rfl), hb5⟩
      | true =>
        cases nn with
        | false =>
          go_wp2_with fail
          go_ret
          exact ⟨by rw [HG.out]; clear HG; first | rfl | (cases d <;> rfl) | (cases em <;> rfl) | (cases nn <;> rfl) | (cases yy <;> rfl) | (cases d <;> cases em <;> cases nn <;> cases yy <;> rfl) | (cases em <;> cases nn <;> cases yy <;> rfl) | (cases d <;> cases nn <;> cases yy <;> rfl) | (cases d <;> cases em <;> cases yy <;> rfl) | (cases d <;> cases em <;> cases nn <;> rfl) | (cases d <;> cases em <;> rfl) | (cases d <;> cases nn <;> rfl) | (cases d <;> cases yy <;> rfl) | (cases em <;> cases nn <;> rfl) | (cases em <;> cases yy <;> rfl) | (cases nn <;> cases yy <;> rfl), hb5⟩
        | true =>
          go_wp2_with fail
          go_ret
          exact ⟨by rw [HG.out]; clear HG; first | rfl | (cases d <;> rfl) | (cases em <;> rfl) | (cases nn <;> rfl) | (cases yy <;> rfl) | (cases d <;> cases em <;> cases nn <;> cases yy <;> rfl) | (cases em <;> cases nn <;> cases yy <;> rfl) | (cases d <;> cases nn <;> cases yy <;> rfl) | (cases d <;> cases em <;> cases yy <;> rfl) | (cases d <;> cases em <;> cases nn <;> rfl) | (cases d <;> cases em <;> rfl) | (cases d <;> cases nn <;> rfl) | (cases d <;> cases yy <;> rfl) | (cases em <;> cases nn <;> rfl) | (cases em <;> cases yy <;> rfl) | (cases nn <;> cases yy <;> rfl), hb5⟩
    | true =>
      go_wp2_with fail
      go_ret
      exact ⟨by rw [HG.out]; clear HG; first | rfl | (cases d <;> rfl) | (cases em <;> rfl) | (cases nn <;> rfl) | (cases yy <;> rfl) | (cases d <;> cases em <;> cases nn <;> cases yy <;> rfl) | (cases em <;> cases nn <;> cases yy <;> rfl) | (cases d <;> cases nn <;> cases yy <;> rfl) | (cases d <;> cases em <;> cases yy <;> rfl) | (cases d <;> cases em <;> cases nn <;> rfl) | (cases d <;> cases em <;> rfl) | (cases d <;> cases nn <;> rfl) | (cases d <;> cases yy <;> rfl) | (cases em <;> cases nn <;> rfl) | (cases em <;> cases yy <;> rfl) | (cases nn <;> cases yy <;> rfl), hb5⟩
  · subst hk
    cases d with
    | false =>
      cases em with
      | false =>
        go_wp2_with fail
        go_ret
        exact ⟨by rw [HG.out]; clear HG; first | rfl | (cases d <;> rfl) | (cases em <;> rfl) | (cases nn <;> rfl) | (cases yy <;> rfl) | (cases d <;> cases em <;> cases nn <;> cases yy <;> rfl) | (cases em <;> cases nn <;> cases yy <;> rfl) | (cases d <;> cases nn <;> cases yy <;> rfl) | (cases d <;> cases em <;> cases yy <;> rfl) | (cases d <;> cases em <;> cases nn <;> rfl) | (cases d <;> cases em <;> rfl) | (cases d <;> cases nn <;> rfl) | (cases d <;> cases yy <;> rfl) | (cases em <;> cases nn <;> rfl) | (cases em <;> cases yy <;> rfl) | (cases nn <;> cases yy <;> rfl), hb5⟩
      | true =>
        cases nn with
        | false =>
          cases yy with
          | false =>
            go_wp2_with fail
            go_ret
            exact ⟨by rw [HG.out]; clear HG; first | rfl | (cases d <;> rfl) | (cases em <;> rfl) | (cases nn <;> rfl) | (cases yy <;> rfl) | (cases d <;> cases em <;> cases nn <;> cases yy <;> rfl) | (cases em <;> cases nn <;> cases yy <;> rfl) | (cases d <;> cases nn <;> cases yy <;> rfl) | (cases d <;> cases em <;> cases yy <;> rfl) | (cases d <;> cases em <;> cases nn <;> rfl) | (cases d <;> cases em <;> rfl) | (cases d <;> cases nn <;> rfl) | (cases d <;> cases yy <;> rfl) | (cases em <;> cases nn <;> rfl) | (cases em <;> cases yy <;> rfl) | (cases nn <;> cases yy <;> rfl), hb5⟩
          | true =>
            go_wp2_with fail
            go_ret
            exact ⟨by rw [HG.out]; clear HG; first | rfl | (cases d <;> rfl) | (cases em <;> rfl) | (cases nn <;> rfl) | (cases yy <;> rfl) | (cases d <;> cases em <;> cases nn <;> cases yy <;> rfl) | (cases em <;> cases nn <;> cases yy <;> rfl) | (cases d <;> cases nn <;> cases yy <;> rfl) | (cases d <;> cases em <;> cases yy <;> rfl) | (cases d <;> cases em <;> cases nn <;> rfl) | (cases d <;> cases em <;> rfl) | (cases d <;> cases nn <;> rfl) | (cases d <;> cases yy <;> rfl) | (cases em <;> cases nn <;> rfl) | (cases em <;> cases yy <;> rfl) | (cases nn <;> cases yy <;> rfl), hb5⟩
        | true =>
          go_wp2_with fail
          go_ret
          exact ⟨by rw [HG.out]; clear HG; first | rfl | (cases d <;> rfl) | (cases em <;> rfl) | (cases nn <;> rfl) | (cases yy <;> rfl) | (cases d <;> cases em <;> cases nn <;> cases yy <;> rfl) | (cases em <;> cases nn <;> cases yy <;> rfl) | (cases d <;> cases nn <;> cases yy <;> rfl) | (cases d <;> cases em <;> cases yy <;> rfl) | (cases d <;> cases em <;> cases nn <;> rfl) | (cases d <;> cases em <;> rfl) | (cases d <;> cases nn <;> rfl) | (cases d <;> cases yy <;> rfl) | (cases em <;> cases nn <;> rfl) | (cases em <;> cases yy <;> rfl) | (cases nn <;> cases yy <;> rfl), hb5⟩
    | true =>
      go_wp2_with fail
      go_ret
      exact ⟨by rw [HG.out]; clear HG; first | rfl | (cases d <;> rfl) | (cases em <;> rfl) | (cases nn <;> rfl) | (cases yy <;> rfl) | (cases d <;> cases em <;> cases nn <;> cases yy <;> rfl) | (cases em <;> cases nn <;> cases yy <;> rfl) | (cases d <;> cases nn <;> cases yy <;> rfl) | (cases d <;> cases em <;> cases yy <;> rfl) | (cases d <;> cases em <;> cases nn <;> rfl) | (cases d <;> cases em <;> rfl) | (cases d <;> cases nn <;> rfl) | (cases d <;> cases yy <;> rfl) | (cases em <;> cases nn <;> rfl) | (cases em <;> cases yy <;> rfl) | (cases nn <;> cases yy <;> rfl), hb5⟩
end Go.Proofs.YtokcmaehojljdaaDoor

/- The reference's Check and load of a message: their walks. -/
namespace Go.Proofs.YtokcmaehojljdaaDoor
open Go.RowKit Go.Shelf Go.Proofs.YtokcmaehojljdaaDoorW.PrintWords Go.Proofs.YtokcmaehojljdaaDoorW.PrintLast Go.Proofs.YtokcmaehojljdaaDoorW.PrintMore

theorem okKind_of (k : Int) (h : 1 ≤ k ∧ k ≤ 6) : okKind k = true := by
  unfold okKind
  rw [decide_eq_true h.1, decide_eq_true h.2]; rfl
theorem okKind_no (k : Int) (h : ¬ (1 ≤ k ∧ k ≤ 6)) : okKind k = false := by
  rw [← Bool.not_eq_true]
  unfold okKind
  rw [Bool.and_eq_true, decide_eq_true_eq, decide_eq_true_eq]
  exact h
theorem cm_good (m : Ms) (hk : 1 ≤ m.kind ∧ m.kind ≤ 6) (hg : goodHas m = true) : checkMs m = if m.kind = 1 ∧ 65536 < m.data.size then 6 else
    if (m.kind = 2 ∧ (m.data.size < 1 ∨ 100 < m.data.size)) ∨ m.n < 0 ∨ (m.kind = 5 ∧ (m.why < 1 ∨ 23 < m.why)) then 1 else if m.kind = 3 then checkSn m.snap else 0 := by
  rw [checkMs, if_neg (by rw [okKind_of _ hk]; decide), if_neg (by rw [hg]; decide)]
theorem cm1 (m : Ms) (hg : goodHas m = true) (hk : m.kind = 1) : checkMs m = if 65536 < m.data.size then 6 else 0 := by
  have hn := (good_parts m hg).2.2.1 (by omega)
  rw [cm_good m (by omega) hg]
  by_cases h : 65536 < m.data.size
  · rw [if_pos ⟨hk, h⟩, if_pos h]
  · rw [if_neg (fun e => h e.2), if_neg h, if_neg (by omega), if_neg (by omega)]
theorem cm2 (m : Ms) (hg : goodHas m = true) (hk : m.kind = 2) : checkMs m = if m.data.size < 1 ∨ 100 < m.data.size then 1 else 0 := by
  have hn := (good_parts m hg).2.2.1 (by omega)
  rw [cm_good m (by omega) hg, if_neg (by omega)]
  by_cases h : m.data.size < 1 ∨ 100 < m.data.size
  · rw [if_pos (.inl ⟨hk, h⟩), if_pos h]
  · rw [if_neg (by omega), if_neg h, if_neg (by omega)]
theorem cm3 (m : Ms) (hg : goodHas m = true) (hk : m.kind = 3) : checkMs m = checkSn m.snap := by
  have hn := (good_parts m hg).2.2.1 (by omega)
  rw [cm_good m (by omega) hg, if_neg (by omega), if_neg (by omega), if_pos hk]
theorem cm4 (m : Ms) (hg : goodHas m = true) (hk : m.kind = 4) : checkMs m = if m.n < 0 then 1 else 0 := by
  rw [cm_good m (by omega) hg, if_neg (by omega)]
  by_cases h : m.n < 0
  · rw [if_pos (.inr (.inl h)), if_pos h]
  · rw [if_neg (by omega), if_neg h, if_neg (by omega)]
theorem cm5 (m : Ms) (hg : goodHas m = true) (hk : m.kind = 5) : checkMs m = if m.why < 1 ∨ 23 < m.why then 1 else 0 := by
  have hn := (good_parts m hg).2.2.1 (by omega)
  rw [cm_good m (by omega) hg, if_neg (by omega)]
  by_cases h : m.why < 1 ∨ 23 < m.why
  · rw [if_pos (.inr (.inr ⟨hk, h⟩)), if_pos h]
  · rw [if_neg (by omega), if_neg h, if_neg (by omega)]
theorem cm6 (m : Ms) (hg : goodHas m = true) (hk : m.kind = 6) : checkMs m = 0 := by
  have hn := (good_parts m hg).2.2.1 (by omega)
  rw [cm_good m (by omega) hg, if_neg (by omega), if_neg (by omega), if_neg (by omega)]
set_option maxHeartbeats 8000000 in
set_option maxRecDepth 100000 in
theorem rwcheck_any (m : Ms) (v0 v1 v2 : Value) (w : World) (h : MsOk w m v0 v1 v2) :
    Calls Tryd.prog 14 #[.agg (msL m v0 v1 v2).toArray] w fun e w' => e = .returned (.int .i64 (checkMs m)) ∧ Below w.heap.size w w' := by
  have hs := h.snap.hs
  have HA := fun hk => Sec.mk (fun w' (hb : Below w.heap.size w w') => alone_any m v0 v1 v2 w' (h.below hb) hk)
  have HC3 := Sec.mk (fun w' (hb : Below w.heap.size w w') => rcheck_any m.snap v0 v1 v2 w' (h.snap.below hb))
  have hM0 := Row.new w (msL m v0 v1 v2).toArray 31
  have hb0 := (Below.refl w.heap.size w).alloc (Nat.le_refl _) (.cells (msL m v0 v1 v2).toArray 31)
  have HOK := Sec.mk (okKind_no m.kind)
  have HA' := Sec.mk HA
  clear h HA
  go_enter Tryd.func14, Tryd.ntmps14
  go_upto_region 1 with (fail)
  refine wp_abs (fun W HW => ?_)
  rw [← HW.out] at hM0 hb0
  clear HW
  obtain ⟨k0, -, -, -⟩ := ms_cells hM0 hs
  by_cases q1 : m.kind < 1
  · have d1 : decide (m.kind < 1) = true := decide_eq_true q1
    have HX := Sec.mk (HOK.out (by omega))
    clear q1
    go_wp2_with fail
    go_ret
    exact ⟨by rw [checkMs, if_pos HX.out]; rfl, hb0⟩
  have d1 : decide (m.kind < 1) = false := decide_eq_false q1
  by_cases q2 : 6 < m.kind
  · have d2 : decide (6 < m.kind) = true := decide_eq_true q2
    have HX := Sec.mk (HOK.out (by omega))
    clear q1 q2
    go_wp2_with fail
    go_ret
    exact ⟨by rw [checkMs, if_pos HX.out]; rfl, hb0⟩
  have d2 : decide (6 < m.kind) = false := decide_eq_false q2
  have hkr : 1 ≤ m.kind ∧ m.kind ≤ 6 := by omega
  have HKR := Sec.mk hkr
  have hwh := ms_whole hM0 hs
  clear q1 q2 hkr HOK
  go_wp2_with (refine wpList_load_list rfl 31 (.tmp 1) rfl w.heap.size 0 rfl _ hwh ?_)
  refine ((HA'.out HKR.out).out _ hb0).mono ?_
  rintro e w1 ⟨rfl, hb1⟩
  have hM1 := hM0.below hb1 hM0.lt
  replace hb1 := hb0.trans (hb1.mono hb0.size)
  clear hM0 hb0 k0 hwh d1 d2 HA'
  by_cases hg : goodHas m = false
  · rw [hg]
    have HX := Sec.mk (show checkMs m = 1 by rw [checkMs, if_neg (by rw [okKind_of _ HKR.out]; decide), if_pos hg])
    clear hg
    go_wp2_with fail
    go_ret
    exact ⟨by rw [HX.out]; rfl, hb1⟩
  have hg' : goodHas m = true := by simpa using hg
  rw [hg']
  have HGG := Sec.mk hg'
  clear hg hg'
  obtain ⟨k0, k1, k2, k3⟩ := ms_cells hM1 hs
  have hkc : m.kind = 1 ∨ m.kind = 2 ∨ m.kind = 3 ∨ m.kind = 4 ∨ m.kind = 5 ∨ m.kind = 6 := by have := HKR.out; omega
  rcases hkc with hk | hk | hk | hk | hk | hk
  · have HV := Sec.mk (cm1 m HGG.out hk)
    rw [hk] at k0
    clear hk
    by_cases q : 65536 < m.data.size
    · have e1 : decide ((65536 : Int) < m.data.size) = true := decide_eq_true (by omega)
      have e2 : decide (65536 < m.data.size) = true := decide_eq_true q
      have HQ := Sec.mk q
      clear q
      go_wp2_with fail
      go_ret
      exact ⟨by rw [HV.out, if_pos HQ.out]; rfl, hb1⟩
    · have e1 : decide ((65536 : Int) < m.data.size) = false := decide_eq_false (by omega)
      have e2 : decide (65536 < m.data.size) = false := decide_eq_false q
      have HQ := Sec.mk q
      clear q
      go_wp2_with fail
      go_ret
      exact ⟨by rw [HV.out, if_neg HQ.out]; rfl, hb1⟩
  · have HV := Sec.mk (cm2 m HGG.out hk)
    rw [hk] at k0
    clear hk
    by_cases q : m.data.size < 1
    · have e1 : decide ((m.data.size : Int) < 1) = true := decide_eq_true (by omega)
      have e2 : decide (m.data.size < 1) = true := decide_eq_true q
      have e3 : decide (m.data.size = 0) = true := decide_eq_true (by omega)
      have HQ := Sec.mk q
      clear q
      go_wp2_with fail
      go_ret
      exact ⟨by rw [HV.out, if_pos (.inl HQ.out)]; rfl, hb1⟩
    have e1 : decide ((m.data.size : Int) < 1) = false := decide_eq_false (by omega)
    have e2 : decide (m.data.size < 1) = false := decide_eq_false q
    have e3 : decide (m.data.size = 0) = false := decide_eq_false (by omega)
    by_cases q2 : 100 < m.data.size
    · have e4 : decide ((100 : Int) < m.data.size) = true := decide_eq_true (by omega)
      have e5 : decide (100 < m.data.size) = true := decide_eq_true q2
      have HQ := Sec.mk q2
      clear q q2
      go_wp2_with fail
      go_ret
      exact ⟨by rw [HV.out, if_pos (.inr HQ.out)]; rfl, hb1⟩
    · have e4 : decide ((100 : Int) < m.data.size) = false := decide_eq_false (by omega)
      have e5 : decide (100 < m.data.size) = false := decide_eq_false q2
      have HQ := Sec.mk (show ¬ (m.data.size < 1 ∨ 100 < m.data.size) by omega)
      clear q q2
      go_wp2_with fail
      go_ret
      exact ⟨by rw [HV.out, if_neg HQ.out]; rfl, hb1⟩
  · have HV := Sec.mk (cm3 m HGG.out hk)
    rw [hk] at k0
    clear hk
    have hsn := ms_snap hM1 hs
    go_wp2_with (refine wpList_load_list rfl 28 (.tmp 36) rfl w.heap.size 2 rfl _ hsn ?_)
    refine (HC3.out _ hb1).mono ?_
    rintro e w2 ⟨rfl, hb2⟩
    replace hb2 := hb1.trans (hb2.mono hb1.size)
    generalize checkSn m.snap = z at *
    go_wp2_with fail
    go_ret
    exact ⟨by rw [HV.out]; rfl, hb2⟩
  · have HV := Sec.mk (cm4 m HGG.out hk)
    rw [hk] at k0
    clear hk
    by_cases q : m.n < 0
    · have e1 : decide (m.n < 0) = true := decide_eq_true q
      have HQ := Sec.mk q
      clear q
      go_wp2_with fail
      go_ret
      exact ⟨by rw [HV.out, if_pos HQ.out]; rfl, hb1⟩
    · have e1 : decide (m.n < 0) = false := decide_eq_false q
      have HQ := Sec.mk q
      clear q
      go_wp2_with fail
      go_ret
      exact ⟨by rw [HV.out, if_neg (show ¬ m.n < 0 by have := HQ.out; omega)]; rfl, hb1⟩
  · have HV := Sec.mk (cm5 m HGG.out hk)
    rw [hk] at k0
    clear hk
    by_cases q : m.why < 1
    · have e1 : decide (m.why < 1) = true := decide_eq_true q
      have HQ := Sec.mk q
      clear q
      go_wp2_with fail
      go_ret
      exact ⟨by rw [HV.out, if_pos (.inl HQ.out)]; rfl, hb1⟩
    have e1 : decide (m.why < 1) = false := decide_eq_false q
    by_cases q2 : 23 < m.why
    · have e2 : decide (23 < m.why) = true := decide_eq_true q2
      have HQ := Sec.mk q2
      clear q q2
      go_wp2_with fail
      go_ret
      exact ⟨by rw [HV.out, if_pos (.inr HQ.out)]; rfl, hb1⟩
    · have e2 : decide (23 < m.why) = false := decide_eq_false q2
      have HQ := Sec.mk (show ¬ (m.why < 1 ∨ 23 < m.why) by omega)
      clear q q2
      go_wp2_with fail
      go_ret
      exact ⟨by rw [HV.out, if_neg HQ.out]; rfl, hb1⟩
  · have HV := Sec.mk (cm6 m HGG.out hk)
    rw [hk] at k0
    clear hk
    go_wp2_with fail
    go_ret
    exact ⟨by rw [HV.out]; rfl, hb1⟩
end Go.Proofs.YtokcmaehojljdaaDoor

/- The walk of WireCuts. -/
namespace Go.Proofs.YtokcmaehojljdaaDoor
open Go.RowKit Go.Shelf Go.Proofs.YtokcmaehojljdaaDoorW.PrintWords Go.Proofs.YtokcmaehojljdaaDoorW.PrintLast Go.Proofs.YtokcmaehojljdaaDoorW.PrintMore

theorem putMs_size (m : Ms) {w : World} {v0 v1 v2 : Value} (h : MsOk w m v0 v1 v2) (hc : checkMs m = 0) : (putMs m).size ≤ 3000000 ∧ 0 < (putMs m).size := by
  have hlen := load_len m hc h.snap.hs h.snap.hn h.snap.hat h.snap.hp h.snap.hb h.hn h.hw
  have hd := dec_size_le m.kind h.hk
  have := rowU_bound 1000000 (by decide) [dec m.kind, loadMs m] (fun x hx => by
    rcases List.mem_cons.1 hx with rfl | hx
    · omega
    · rw [List.mem_singleton.1 hx]; exact hlen)
  have h2 := rowU_count [dec m.kind, loadMs m]
  have e : (putMs m).size = (rowU [dec m.kind, loadMs m]).length := by rw [putMs, if_pos hc, bytes_size]
  rw [e]
  simp only [List.length_cons, List.length_nil] at this h2
  constructor <;> omega
theorem putMs_list (m : Ms) (hc : checkMs m = 0) : (putMs m).data.toList = rowU [dec m.kind, loadMs m] := by
  rw [putMs, if_pos hc]
theorem cut_short (m : Ms) (hc : checkMs m = 0) (j : Nat) (hj : j < (putMs m).size) : Not2 ((putMs m).extract 0 j) := by
  refine not2_short (dec m.kind) (loadMs m) _ ((putMs m).data.toList.drop j) ?_ ?_
  · intro e
    have := congrArg List.length e
    simp at this
    omega
  · rw [extract_list, List.drop_zero, Nat.sub_zero, List.take_append_drop, putMs_list m hc]
theorem cut_more (m : Ms) (hc : checkMs m = 0) (s : ByteArray) (hs : s.size ≠ 0) : Not2 (putMs m ++ s) := by
  refine not2_more (dec m.kind) (loadMs m) _ s.data.toList ?_ ?_
  · intro e
    have := congrArg List.length e
    rw [List.length_nil, Array.length_toList] at this
    exact hs this
  · rw [← putMs_list m hc]; simp
set_option maxHeartbeats 8000000 in
set_option maxRecDepth 100000 in
theorem cuts_any (m : Ms) (v0 v1 v2 : Value) (k : Int) (more : ByteArray) (w : World) (hm : MsOk w m v0 v1 v2) (hk : 0 ≤ k ∧ k ≤ 65535) (hmore : more.size ≤ 140737488351232) (hl : Laid w) :
    Calls Tryd.prog 7 #[.agg (msL m v0 v1 v2).toArray, .int .u16 k, .string more] w fun e w' => e = .returned (.bool true) ∧ Below w.heap.size w w' := by
  have hsm := hm.snap.hs
  have hra : Row (w.alloc (.cells (msL m v0 v1 v2).toArray 31)) w.heap.size 31 (msL m v0 v1 v2).toArray := Row.new w _ 31
  have hb0 := (Below.refl w.heap.size w).alloc (Nat.le_refl _) (.cells (msL m v0 v1 v2).toArray 31)
  have HX := Sec.mk hm
  clear hm
  have HAW := Sec.mk (fun w' (hb : Below w.heap.size w w') => awake_any w' (hl.below hb))
  go_enter Tryd.func7, Tryd.ntmps7
  go_upto_region 1 with (fail)
  refine wp_abs (fun W HW => ?_)
  rw [← HW.out] at hra hb0
  clear HW
  have hxa := ms_whole hra hsm
  go_cut [24] (fun v24 wc => (∃ r : Bool, v24 = .bool r ∧ Sec (r = false → more.size ≤ 300 ∧ more.size ≠ 0)) ∧ Row wc w.heap.size 31 (msL m v0 v1 v2).toArray ∧ Below w.heap.size w wc)
  case first =>
    go_wp2_with (refine wpList_load_list rfl 31 (.tmp 3) rfl w.heap.size 0 rfl _ hxa ?_)
    refine (great_any m v0 v1 v2 _ (HX.out.below hb0)).mono ?_
    rintro e w1 ⟨⟨r, rfl⟩, hb1⟩
    have hra1 := hra.below hb1 hra.lt
    replace hb1 := hb0.trans (hb1.mono hb0.size)
    clear hxa hra hb0
    by_cases hr : 0 < r
    · have hd : decide (0 < r) = true := decide_eq_true hr
      go_wp2_with fail
      go_meet
      exact ⟨⟨_, rfl, ⟨fun h => by cases h⟩⟩, hra1, hb1⟩
    · have hd : decide (0 < r) = false := decide_eq_false hr
      by_cases hbig : (300 : Int) < more.size
      · have hd2 : decide ((300 : Int) < more.size) = true := decide_eq_true hbig
        have hd3 : decide (300 < more.size) = true := decide_eq_true (by omega)
        go_wp2_with fail
        go_meet
        exact ⟨⟨_, rfl, ⟨fun h => by cases h⟩⟩, hra1, hb1⟩
      · have hd2 : decide ((300 : Int) < more.size) = false := decide_eq_false hbig
        have hd3 : decide (300 < more.size) = false := decide_eq_false (by omega)
        by_cases hnil : more.toList = []
        · have hd4 : (more.toList == []) = true := beq_iff_eq.2 hnil
          go_wp2_with fail
          go_meet
          exact ⟨⟨_, rfl, ⟨fun h => by cases h⟩⟩, hra1, hb1⟩
        · have hd4 : (more.toList == []) = false := beq_eq_false_iff_ne.2 hnil
          have HN := Sec.mk hnil
          have HB := Sec.mk hbig
          clear hnil hbig
          go_wp2_with fail
          go_meet
          refine ⟨⟨_, rfl, ⟨fun _ => ⟨by have := HB.out; omega, fun h => HN.out ?_⟩⟩⟩, hra1, hb1⟩
          rw [ByteArray.toList_eq]
          apply List.eq_nil_of_length_eq_zero
          simpa using h
  case rest =>
    clear hxa hra hb0
    obtain ⟨⟨r, rfl, HR⟩, hra, hb⟩ := hcut
    cases r with
    | true =>
      go_wp2_with fail
      refine (HAW.out _ hb).mono ?_
      rintro e w2 ⟨rfl, hb2⟩
      go_wp2_with fail
      go_ret
      exact ⟨rfl, hb.trans (hb2.mono hb.size)⟩
    | false =>
      obtain ⟨hm1, hm2⟩ := HR.out rfl
      clear HR
      have hxa := ms_whole hra hsm
      go_wp2_with (refine wpList_load_list rfl 31 (.tmp 3) rfl w.heap.size 0 rfl _ hxa ?_)
      refine (put_any m v0 v1 v2 _ (HX.out.below hb) (hl.below hb)).mono ?_
      rintro e w2 ⟨rfl, hb2⟩
      have hra2 := hra.below hb2 hra.lt
      replace hb2 := hb.trans (hb2.mono hb.size)
      clear hxa hra hb
      by_cases hcm : checkMs m = 0
      · rw [hcm]
        obtain ⟨hs1, hs2⟩ := putMs_size m HX.out hcm
        obtain ⟨j, hj, hjl⟩ : ∃ j : Nat, Int.tmod k ((putMs m).size : Int) = (j : Int) ∧ j < (putMs m).size := by
          refine ⟨(Int.tmod k ((putMs m).size : Int)).toNat, ?_, ?_⟩
          · have := Int.tmod_nonneg ((putMs m).size : Int) hk.1; omega
          · have h1 := Int.tmod_lt_of_pos k (b := ((putMs m).size : Int)) (by omega)
            have h2 := Int.tmod_nonneg ((putMs m).size : Int) hk.1
            omega
        have HG1 := Sec.mk (fun w => get_not2 ((putMs m).extract 0 j) (by simp; omega) (cut_short m hcm j hjl) w)
        have HG2 := Sec.mk (fun w => get_not2 (putMs m ++ more) (by simp; omega) (cut_more m hcm more hm2) w)
        clear hcm
        generalize putMs m = pm at *
        have z0 : ¬ (pm.size : Int) = 0 := by omega
        have z1 : ((pm.size : Int) == 0) = false := beq_eq_false_iff_ne.2 z0
        have q1 : ((j : Int) ≤ pm.size) = True := eq_true (by omega)
        have q2 : (0 ≤ (j : Int)) = True := eq_true (by omega)
        have hk1 := hk.1
        have hk2 := hk.2
        have hkw : wrap64 k = k := by unfold wrap64; omega
        go_wp2_with fail
        refine (HG1.out w2).mono ?_
        rintro e w3 ⟨rfl, hb3⟩
        replace hb3 := hb2.trans (hb3.mono hb2.size)
        have hx9 := (Row.new w3 (msL ms0 (.slice none 0 0) (.slice none 0 0) (.slice none 0 0)).toArray 31).row (C := (msL ms0 (.slice none 0 0) (.slice none 0 0) (.slice none 0 0)).toArray)
        have hb4 := below_row (hb3.alloc hb3.size (.cells (msL ms0 (.slice none 0 0) (.slice none 0 0) (.slice none 0 0)).toArray 31)) hb3.size (msL ms0 (.slice none 0 0) (.slice none 0 0) (.slice none 0 0)).toArray
        clear hra2 HG1 hb2 hj hkw hk1 hk2 hk hjl q1 q2
        go_upto_region 7 with (refine wpList_store_row rfl 31 (.tmp 9) (.tmp 52) rfl w3.heap.size (msL ms0 (.slice none 0 0) (.slice none 0 0) (.slice none 0 0)).toArray rfl rfl 31 _ (Row.new w3 (msL ms0 (.slice none 0 0) (.slice none 0 0) (.slice none 0 0)).toArray 31) size0 rfl one0 ?_)
        refine wp_abs (fun W4 HW => ?_)
        replace hx9 : Row W4 w3.heap.size 31 (msL ms0 (.slice none 0 0) (.slice none 0 0) (.slice none 0 0)).toArray := by rw [HW.out]; exact hx9
        replace hb4 : Below w.heap.size w W4 := by rw [HW.out]; exact hb4
        clear HW
        have hpm : pm.size + more.size ≤ 3000300 := by omega
        go_wp2_with fail
        refine (HG2.out W4).mono ?_
        rintro e w5 ⟨rfl, hb5⟩
        have hx95 := hx9.below hb5 hx9.lt
        replace hb5 := hb4.trans (hb5.mono hb4.size)
        have hx11 := (Row.new w5 (msL ms0 (.slice none 0 0) (.slice none 0 0) (.slice none 0 0)).toArray 31).row (C := (msL ms0 (.slice none 0 0) (.slice none 0 0) (.slice none 0 0)).toArray)
        have hx96 := (hx95.alloc (.cells (msL ms0 (.slice none 0 0) (.slice none 0 0) (.slice none 0 0)).toArray 31)).rowOther (Nat.ne_of_lt hx95.lt) (msL ms0 (.slice none 0 0) (.slice none 0 0) (.slice none 0 0)).toArray
        have hb6 := below_row (hb5.alloc hb5.size (.cells (msL ms0 (.slice none 0 0) (.slice none 0 0) (.slice none 0 0)).toArray 31)) hb5.size (msL ms0 (.slice none 0 0) (.slice none 0 0) (.slice none 0 0)).toArray
        clear hx9 hx95 HG2 hb4
        go_upto_region 8 with (refine wpList_store_row rfl 31 (.tmp 11) (.tmp 59) rfl w5.heap.size (msL ms0 (.slice none 0 0) (.slice none 0 0) (.slice none 0 0)).toArray rfl rfl 31 _ (Row.new w5 (msL ms0 (.slice none 0 0) (.slice none 0 0) (.slice none 0 0)).toArray 31) size0 rfl one0 ?_)
        refine wp_abs (fun W6 HW => ?_)
        replace hx11 : Row W6 w5.heap.size 31 (msL ms0 (.slice none 0 0) (.slice none 0 0) (.slice none 0 0)).toArray := by rw [HW.out]; exact hx11
        replace hx96 : Row W6 w3.heap.size 31 (msL ms0 (.slice none 0 0) (.slice none 0 0) (.slice none 0 0)).toArray := by rw [HW.out]; exact hx96
        replace hb6 : Below w.heap.size w W6 := by rw [HW.out]; exact hb6
        clear HW
        have HS := Sec.mk (fun W => same_any ms0 ms0 _ _ _ _ _ _ W (ms0_ok W) (ms0_ok W))
        have h9 := ms_whole hx96 (by decide)
        go_wp2_with (refine wpList_load_list rfl 31 (.tmp 9) rfl w3.heap.size 0 rfl _ h9 ?_)
        refine (HS.out W6).mono ?_
        rintro e w7 ⟨⟨r, rfl, hr⟩, hb7⟩
        obtain rfl : r = true := hr.2 trivial
        have hx117 := hx11.below hb7 hx11.lt
        replace hb7 := hb6.trans (hb7.mono hb6.size)
        clear hr h9 hx11 hx96 hb6
        have h11 := ms_whole hx117 (by decide)
        go_wp2_with (refine wpList_load_list rfl 31 (.tmp 11) rfl w5.heap.size 0 rfl _ h11 ?_)
        refine (HS.out w7).mono ?_
        rintro e w8 ⟨⟨r, rfl, hr⟩, hb8⟩
        obtain rfl : r = true := hr.2 trivial
        replace hb8 := hb7.trans (hb8.mono hb7.size)
        clear hr h11 hx117 hb7
        go_wp2_with fail
        refine (HAW.out _ hb8).mono ?_
        rintro e w9 ⟨rfl, hb9⟩
        go_wp2_with fail
        go_ret
        exact ⟨rfl, hb8.trans (hb9.mono hb8.size)⟩
      · generalize checkMs m = z at hcm ⊢
        have hz1 : (z != 0) = true := bne_iff_ne.2 hcm
        have hz2 : (z == 0) = false := beq_eq_false_iff_ne.2 hcm
        generalize putMs m = pm
        go_wp2_with fail
        refine (HAW.out _ hb2).mono ?_
        rintro e w5 ⟨rfl, hb5⟩
        go_wp2_with fail
        go_ret
        exact ⟨rfl, hb2.trans (hb5.mono hb2.size)⟩
end Go.Proofs.YtokcmaehojljdaaDoor

/- The reference's Put of a message: its walk. -/
namespace Go.Proofs.YtokcmaehojljdaaDoor
open Go.RowKit Go.Shelf Go.Proofs.YtokcmaehojljdaaDoorW.PrintWords Go.Proofs.YtokcmaehojljdaaDoorW.PrintLast Go.Proofs.YtokcmaehojljdaaDoorW.PrintMore

set_option maxHeartbeats 8000000 in
set_option maxRecDepth 100000 in
theorem rload_any (m : Ms) (v0 v1 v2 : Value) (w : World) (h : MsOk w m v0 v1 v2) (hc : checkMs m = 0) :
    Calls Tryd.prog 23 #[.agg (msL m v0 v1 v2).toArray] w fun e w' => e = .returned (.string (loadMs m)) ∧ Below w.heap.size w w' := by
  have hs := h.snap.hs
  have HC3 := Sec.mk (fun w' (hb : Below w.heap.size w w') => rbytes_any m.snap v0 v1 v2 w' (h.snap.below hb))
  have hn := h.hn
  have hw := h.hw
  obtain ⟨hkr, hg, -⟩ := checkMs_zero m hc
  have hM0 := Row.new w (msL m v0 v1 v2).toArray 31
  have hb0 := (Below.refl w.heap.size w).alloc (Nat.le_refl _) (.cells (msL m v0 v1 v2).toArray 31)
  have hlo : loadMs m = if m.kind = 3 then bytesSn m.snap else if m.kind = 4 then dec m.n else if m.kind = 5 then dec m.why else m.data := rfl
  have hd6 : m.kind = 6 → m.data = ⟨#[]⟩ := fun e => (good_parts m hg).1 (by omega) (by omega)
  have HLO := Sec.mk hlo
  have HD6 := Sec.mk hd6
  clear h hlo hd6 hg hc
  go_enter Tryd.func23, Tryd.ntmps23
  go_upto_region 1 with (fail)
  refine wp_abs (fun W HW => ?_)
  rw [← HW.out] at hM0 hb0
  clear HW
  obtain ⟨k0, k1, k2, k3⟩ := ms_cells hM0 hs
  have hkc : m.kind = 1 ∨ m.kind = 2 ∨ m.kind = 3 ∨ m.kind = 4 ∨ m.kind = 5 ∨ m.kind = 6 := by omega
  clear hkr
  rcases hkc with hk | hk | hk | hk | hk | hk
  · have HV := Sec.mk (show loadMs m = m.data by rw [HLO.out, if_neg (by omega), if_neg (by omega), if_neg (by omega)])
    rw [hk] at k0
    clear hk
    go_wp2_with fail
    go_ret
    exact ⟨by rw [HV.out]; rfl, hb0⟩
  · have HV := Sec.mk (show loadMs m = m.data by rw [HLO.out, if_neg (by omega), if_neg (by omega), if_neg (by omega)])
    rw [hk] at k0
    clear hk
    go_wp2_with fail
    go_ret
    exact ⟨by rw [HV.out]; rfl, hb0⟩
  · have HV := Sec.mk (show loadMs m = bytesSn m.snap by rw [HLO.out, if_pos hk])
    rw [hk] at k0
    clear hk
    have hsn := ms_snap hM0 hs
    go_wp2_with (refine wpList_load_list rfl 28 (.tmp 15) rfl w.heap.size 2 rfl _ hsn ?_)
    refine (HC3.out _ hb0).mono ?_
    rintro e w2 ⟨rfl, hb2⟩
    replace hb2 := hb0.trans (hb2.mono hb0.size)
    generalize checkSn m.snap = z at *
    go_wp2_with fail
    go_ret
    exact ⟨by rw [HV.out]; rfl, hb2⟩
  · have HV := Sec.mk (show loadMs m = dec m.n by rw [HLO.out, if_neg (by omega), if_pos hk])
    rw [hk] at k0
    clear hk
    go_wp2_with fail
    refine (rdec_any m.n hn.1 hn.2 _).mono ?_
    rintro e w2 ⟨rfl, hb2⟩
    replace hb2 := hb0.trans (hb2.mono hb0.size)
    go_wp2_with fail
    go_ret
    exact ⟨by rw [HV.out]; rfl, hb2⟩
  · have HV := Sec.mk (show loadMs m = dec m.why by rw [HLO.out, if_neg (by omega), if_neg (by omega), if_pos hk])
    rw [hk] at k0
    clear hk
    go_wp2_with fail
    refine (rdec_any m.why hw.1 hw.2 _).mono ?_
    rintro e w2 ⟨rfl, hb2⟩
    replace hb2 := hb0.trans (hb2.mono hb0.size)
    go_wp2_with fail
    go_ret
    exact ⟨by rw [HV.out]; rfl, hb2⟩
  · have HV := Sec.mk (show loadMs m = ⟨#[]⟩ by rw [HLO.out, if_neg (by omega), if_neg (by omega), if_neg (by omega), HD6.out hk])
    rw [hk] at k0
    clear hk
    go_wp2_with fail
    go_ret
    exact ⟨by rw [HV.out]; rfl, hb0⟩
set_option maxHeartbeats 8000000 in
set_option maxRecDepth 100000 in
theorem rput_ms (m : Ms) (v0 v1 v2 : Value) (w : World) (h : MsOk w m v0 v1 v2) :
    Calls Tryd.prog 12 #[.agg (msL m v0 v1 v2).toArray] w fun e w' => e = .returned (.tuple #[.string (putMs m), .int .i64 (checkMs m)]) ∧ Below w.heap.size w w' := by
  have hs := h.snap.hs
  have HLD := fun hc => Sec.mk (fun w' (hb : Below w.heap.size w w') => rload_any m v0 v1 v2 w' (h.below hb) hc)
  have hsz := fun hc => putMs_size m h hc
  have hM0 := Row.new w (msL m v0 v1 v2).toArray 31
  have hb0 := (Below.refl w.heap.size w).alloc (Nat.le_refl _) (.cells (msL m v0 v1 v2).toArray 31)
  have hpu : putMs m = if checkMs m = 0 then ⟨(rowU [dec m.kind, loadMs m]).toArray⟩ else ⟨#[]⟩ := rfl
  go_enter Tryd.func12, Tryd.ntmps12
  go_upto_region 1 with (fail)
  refine wp_abs (fun W HW => ?_)
  rw [← HW.out] at hM0 hb0
  clear HW
  have hwh := ms_whole hM0 hs
  go_wp2_with (refine wpList_load_list rfl 31 (.tmp 1) rfl w.heap.size 0 rfl _ hwh ?_)
  clear hwh
  refine (rwcheck_any m v0 v1 v2 _ (h.below hb0)).mono ?_
  rintro e w1 ⟨rfl, hb1⟩
  have hM1 := hM0.below hb1 hM0.lt
  replace hb1 := hb0.trans (hb1.mono hb0.size)
  clear hM0 hb0
  by_cases hck : checkMs m = 0
  · rw [if_pos hck] at hpu
    rw [hck]
    have HLD := HLD hck
    have HRL : Sec ((rowU [dec m.kind, loadMs m]).length ≤ 140737488351232) := ⟨by
      have := (hsz hck).1
      rw [hpu, bytes_size] at this
      omega⟩
    have HPU := Sec.mk hpu
    have HCK := Sec.mk hck
    have HK := Sec.mk h.hk
    clear hpu hck hsz h
    go_upto_region 4 with (fail)
    obtain ⟨D, hD⟩ : ∃ D, D = w1.drew := ⟨_, rfl⟩
    have hMd : Row w1.drew w.heap.size 31 (msL m v0 v1 v2).toArray := hM1
    have hbd : Below w.heap.size w w1.drew := hb1.drew
    rw [← hD] at hMd hbd
    refine wp_region_held_drew (S := Below D.heap.size D) (by kernel_rfl) (by rw [← hD]; exact Below.refl _ _) (fun hS => ?_)
    rw [← hD] at hS ⊢
    clear hD hM1 hb1
    have RM := Sec.mk (fun w' (h : Below D.heap.size D w') => hMd.below h hMd.lt)
    have CM := Sec.mk (fun w' (h : Below D.heap.size D w') => ms_cells (hMd.below h hMd.lt) hs)
    refine wpAnyH_take (i := 0) (v := .pointer (some ⟨w.heap.size, 0, none⟩)) rfl (by kernel_rfl) (by kernel_rfl) (by kernel_rfl) (fun _ _ _ h => h) (Or.inl ⟨rfl, fun w' h => by go_simp; try rfl⟩) hS ?_
    go_simp
    refine wpAnyH_take (i := 1) (v := .int .i64 m.kind) rfl (by kernel_rfl) (by kernel_rfl) (by kernel_rfl) (fun _ _ _ h => h) (Or.inl ⟨rfl, fun w' h => by have c := (CM.out w' h).1; go_simp; try rfl⟩) hS ?_
    go_simp
    refine wpAnyH_take (i := 3) (v := .agg (msL m v0 v1 v2).toArray) rfl (by kernel_rfl) (by kernel_rfl) (by kernel_rfl) (fun _ _ _ h => h) (yi_load_list rfl 31 (.tmp 1) rfl w.heap.size 0 rfl _ (fun w' h => ms_whole (RM.out w' h) hs)) hS ?_
    go_simp
    refine wpAnyH_ready (rs := [2]) (by kernel_rfl) (by simp) (AllReadyH.cons (o := _) rfl (fun K hK => ?_) AllReadyH.nil)
    go_simp
    refine (rdec_any m.kind HK.out.1 HK.out.2 _).mono ?_
    rintro e y1 ⟨rfl, hy⟩
    refine hK.out _ _ (hS.trans (hy.mono hS.size)) (fun hS => ?_)
    clear hK K hy
    go_simp
    refine wpAnyH_ready (rs := [4]) (by kernel_rfl) (by simp) (AllReadyH.cons (o := _) rfl (fun K hK => ?_) AllReadyH.nil)
    go_simp
    refine (HLD.out _ (hbd.trans (hS.mono hbd.size))).mono ?_
    rintro e y2 ⟨rfl, hy⟩
    refine hK.out _ _ (hS.trans (hy.mono hS.size)) (fun hS => ?_)
    clear hK K hy
    go_simp
    refine wpAnyH_ready (rs := [5]) (by kernel_rfl) (by simp) (AllReadyH.cons (o := _) rfl (fun K hK => ?_) AllReadyH.nil)
    go_simp
    have hGs := hS.size
    have hRN := R_new y2 w.heap.size (Nat.lt_of_lt_of_le hMd.lt hGs) [dec m.kind, loadMs m] (by simp)
    have hCN := (Kd.R_reads' hRN).2.2
    refine hK.out _ _ (hS.alloc hS.size _) (fun hS => ?_)
    clear hK K
    go_simp
    refine wpAnyH_ready (rs := [6]) (by kernel_rfl) (by simp) (AllReadyH.cons (o := _) rfl (fun K hK => ?_) AllReadyH.nil)
    go_simp
    have hrr := rrow_any (some ⟨y2.heap.size, 0, none⟩) 2 [dec m.kind, loadMs m] _ hCN (by simp) (by simp) HRL.out
    refine hrr.mono ?_
    rintro e y5 ⟨rfl, hy⟩
    refine hK.out _ _ (hS.trans (hy.mono hS.size)) (fun hS => ?_)
    clear hK K hy hrr hRN hCN
    obtain ⟨RU, hRU⟩ : ∃ RU, RU = rowU [dec m.kind, loadMs m] := ⟨_, rfl⟩
    rw [← hRU]
    have HRU := Sec.mk hRU
    clear hRU
    go_simp
    refine wpAnyH_take (i := 7) (v := .string ⟨RU.toArray⟩) rfl (by kernel_rfl) (by kernel_rfl) (by kernel_rfl) (fun _ _ _ h => h) (Or.inl ⟨rfl, fun w' h => by go_simp; try rfl⟩) hS ?_
    go_simp
    refine wpAnyH_take (i := 8) (v := .int .i64 0) rfl (by kernel_rfl) (by kernel_rfl) (by kernel_rfl) (fun _ _ _ h => h) (Or.inl ⟨rfl, fun w' h => by go_simp; try rfl⟩) hS ?_
    go_simp
    refine wpAnyH_done (by kernel_rfl) ?_ _
    go_wp2_with fail
    go_ret2
    exact ⟨by rw [HPU.out, HCK.out, HRU.out]; rfl, hbd.trans (hS.mono hbd.size)⟩
  · rw [if_neg hck] at hpu
    have HPU := Sec.mk hpu
    have HCK := Sec.mk hck
    clear hpu
    generalize hcz : checkMs m = z at HCK ⊢
    have HCZ := Sec.mk hcz
    clear hcz
    have hz : (z != 0) = true := bne_iff_ne.2 HCK.out
    have hz2 : ¬ z = 0 := HCK.out
    clear hck
    go_wp2_with fail
    go_ret2
    exact ⟨by rw [HPU.out, HCZ.out]; rfl, hb1⟩
end Go.Proofs.YtokcmaehojljdaaDoor

/- What wire.Put writes, wire.Get reads: with no condition but that the message may be. -/
namespace Go.Proofs.YtokcmaehojljdaaDoor
open Go.RowKit Go.Shelf Go.Proofs.YtokcmaehojljdaaDoorW.PrintWords Go.Proofs.YtokcmaehojljdaaDoorW.PrintLast Go.Proofs.YtokcmaehojljdaaDoorW.PrintMore

theorem hex_back (x : ByteArray) (hx : ofOk x = true) : hexS (ofD x) = x :=
  ofD_inj _ _ (hex_ok _ (ofD_len x)) hx (hex_of _ (ofD_len x))
theorem pcs_flat : ∀ l : List ByteArray, pcs l.length (l.flatMap ofD) = l.map ofD
  | [] => rfl
  | x :: l => by
    have hl := ofD_len x
    rw [List.length_cons, pcs, List.flatMap_cons, List.map_cons]
    have e1 : (ofD x ++ l.flatMap ofD).take 32 = ofD x := by rw [← hl, List.take_left]
    have e2 : (ofD x ++ l.flatMap ofD).drop 32 = l.flatMap ofD := by rw [← hl, List.drop_left]
    rw [e1, e2, pcs_flat l]
theorem digs_size (l : List ByteArray) : (digs l).size = 32 * l.length := by unfold digs; rw [bytes_size, flat_len]
theorem ch_digs (l : List ByteArray) : chOk (digs l) = true := decide_eq_true (by rw [digs_size]; omega)
theorem names_digs (l : List ByteArray) (h : anyBad l = false) : namesOf (digs l) = l := by
  unfold namesOf
  have e : (digs l).size / 32 = l.length := by rw [digs_size]; omega
  have e2 : (digs l).data.toList = l.flatMap ofD := rfl
  rw [if_pos (by rw [digs_size]; omega), e, e2, pcs_flat, List.map_map]
  have hg := good_all l h
  have : ∀ x ∈ l, (hexS ∘ ofD) x = x := fun x hx => hex_back x (hg x hx)
  exact (List.map_congr_left this).trans (List.map_id l)
theorem of_snap (s : Sn) {w0 : World} {v0 v1 v2 : Value} (hs : SnOk w0 s v0 v1 v2) (hc : checkSn s = 0) (w : World) (hl : LaidE w) :
    Calls Tryd.prog 31 #[.string (bytesSn s)] w fun e w' => (∃ u0 u1 u2, e = .returned (.tuple #[.agg (snL s u0 u1 u2).toArray, .int .i64 0]) ∧ SnOk w' s u0 u1 u2 ∧ From w.heap.size u0 ∧ From w.heap.size u1 ∧ From w.heap.size u2) ∧ Below w.heap.size w w' := by
  obtain ⟨h1, h2, h3, h4⟩ := check_zero s hc
  have hm := machine_size _ h1
  have hbad : anyBad s.l0 = false ∧ anyBad s.l1 = false ∧ anyBad s.l2 = false := by
    unfold badS at h4
    rw [Bool.or_eq_false_iff, Bool.or_eq_false_iff] at h4
    exact ⟨h4.1.1, h4.1.2, h4.2⟩
  have hll : s.l0.length ≤ 1000 ∧ s.l1.length ≤ 1000 ∧ s.l2.length ≤ 1000 := by
    have : s.l0.length + s.l1.length + s.l2.length ≤ 1000 := h3
    omega
  have d1 := dec_size_le s.n hs.hn
  have d2 := dec_size_le s.at_ hs.hat
  have d3 := dec_size_le s.pages hs.hp
  have d4 := dec_size_le s.blocks hs.hb
  have z0 := digs_size s.l0
  have z1 := digs_size s.l1
  have z2 := digs_size s.l2
  have hp8 : (⟨(putU s.clock.toNat 8).toArray⟩ : ByteArray).size = 8 := by rw [bytes_size, putU_len]
  have h32 : (⟨s.sum.toArray⟩ : ByteArray).size = 32 := by rw [bytes_size, hs.hs]
  have hlist : (bytesSn s).data.toList = rowU (rowSn s) := by rw [bytesSn, if_pos hc]
  have hlen := rowSn_len s hc hs.hs hs.hn hs.hat hs.hp hs.hb
  have hbsz : (bytesSn s).size ≤ 1000000 := by
    have : (bytesSn s).data.toList.length = (bytesSn s).size := by simp
    rw [← this, hlist]
    exact hlen
  have hr := ofRow_row (rowSn s) (bytesSn s) hlist (fun x hx => by
    rw [rowSn_eq] at hx
    simp only [List.mem_cons, List.not_mem_nil, or_false] at hx
    have h4' : hibm.size = 4 := rfl
    rcases hx with rfl | rfl | rfl | rfl | rfl | rfl | rfl | rfl | rfl | rfl | rfl <;> omega)
  rw [rowSn_eq] at hr
  have hclk : s.clock = ((getU (putU s.clock.toNat 8) : Nat) : Int) := by
    rw [getU_putU]
    have := hs.hc
    omega
  exact of_main (bytesSn s) hibm s.mach (dec s.n) (dec s.at_) _ (dec s.pages) (dec s.blocks) (digs s.l0) (digs s.l1) (digs s.l2) _ (by omega) hr hp8 h32
    ⟨by omega, by omega, by omega, by omega, by omega, by omega, by omega, by omega⟩ s (int_dec _ hs.hn.1 hs.hn.2) (int_dec _ hs.hat.1 hs.hat.2) (int_dec _ hs.hp.1 hs.hp.2) (int_dec _ hs.hb.1 hs.hb.2) rfl hclk rfl
    (ch_digs _) (ch_digs _) (ch_digs _) (names_digs _ hbad.1) (names_digs _ hbad.2.1) (names_digs _ hbad.2.2) hc rfl w hl
theorem getM_back (m : Ms) (hm : MsRange m) (hc : checkMs m = 0) : m = getM m.kind (loadMs m) m.snap (int (loadMs m)).1 := by
  obtain ⟨hk, hg, -⟩ := checkMs_zero m hc
  obtain ⟨g1, g3, g4, g5⟩ := good_parts m hg
  have hlo : loadMs m = if m.kind = 3 then bytesSn m.snap else if m.kind = 4 then dec m.n else if m.kind = 5 then dec m.why else m.data := rfl
  have e : m = ⟨m.kind, m.data, m.snap, m.n, m.why⟩ := rfl
  have hkc : m.kind = 1 ∨ m.kind = 2 ∨ m.kind = 3 ∨ m.kind = 4 ∨ m.kind = 5 ∨ m.kind = 6 := by omega
  rcases hkc with k | k | k | k | k | k
  · rw [hlo, if_neg (by omega), if_neg (by omega), if_neg (by omega)]
    unfold getM
    rw [if_neg (by omega), if_pos (.inl k)]
    conv => lhs; rw [e]
    rw [g3 (by omega), g4 (by omega), g5 (by omega)]
  · rw [hlo, if_neg (by omega), if_neg (by omega), if_neg (by omega)]
    unfold getM
    rw [if_neg (by omega), if_pos (.inr k)]
    conv => lhs; rw [e]
    rw [g3 (by omega), g4 (by omega), g5 (by omega)]
  · unfold getM
    rw [if_pos k]
    conv => lhs; rw [e]
    rw [g1 (by omega) (by omega), g4 (by omega), g5 (by omega)]
  · rw [hlo, if_neg (by omega), if_pos k, int_dec _ hm.hn.1 hm.hn.2]
    unfold getM
    rw [if_neg (by omega), if_neg (by omega), if_pos k]
    conv => lhs; rw [e]
    rw [g1 (by omega) (by omega), g3 (by omega), g5 (by omega)]
  · rw [hlo, if_neg (by omega), if_neg (by omega), if_pos k, int_dec _ hm.hw.1 hm.hw.2]
    unfold getM
    rw [if_neg (by omega), if_neg (by omega), if_neg (by omega), if_pos k]
    conv => lhs; rw [e]
    rw [g1 (by omega) (by omega), g3 (by omega), g4 (by omega)]
  · unfold getM
    rw [if_neg (by omega), if_neg (by omega), if_neg (by omega), if_neg (by omega)]
    conv => lhs; rw [e]
    rw [g1 (by omega) (by omega), g3 (by omega), g4 (by omega), g5 (by omega)]
theorem get_put (m : Ms) {w0 : World} {v0 v1 v2 : Value} (hm : MsOk w0 m v0 v1 v2) (hc : checkMs m = 0) (w : World) (hl : LaidE w) :
    Calls Tryd.prog 15 #[.string (putMs m)] w fun e w' => (∃ u0 u1 u2, e = .returned (.tuple #[.agg (msL m u0 u1 u2).toArray, .int .i64 0]) ∧ MsOk w' m u0 u1 u2) ∧ Below w.heap.size w w' := by
  have hsz := putMs_size m hm hc
  have hd := dec_size_le m.kind hm.hk
  have hlen := load_len m hc hm.snap.hs hm.snap.hn hm.snap.hat hm.snap.hp hm.snap.hb hm.hn hm.hw
  have hi := int_dec m.kind hm.hk.1 hm.hk.2
  have hrow := ofRow_row [dec m.kind, loadMs m] (putMs m) (putMs_list m hc) (fun x hx => by
    rcases List.mem_cons.1 hx with rfl | hx
    · omega
    · rw [List.mem_singleton.1 hx]; omega)
  refine get_any (putMs m) (dec m.kind) (loadMs m) (by omega) hrow (by omega) (by omega) m.snap 0 w hl (fun h3 => ?_) m m 0 ?_ ?_
  · rw [hi] at h3
    have k3 : m.kind = 3 := h3
    have hcs := (checkMs_zero m hc).2.2.2.2 k3
    have hlo : loadMs m = bytesSn m.snap := by unfold loadMs; rw [if_pos k3]
    rw [hlo]
    exact fun w hl => of_snap m.snap hm.snap hcs w hl
  · rw [hi]
    exact getM_back m hm.range hc
  · rw [if_pos ⟨fun _ => rfl, hc, rfl⟩]
    exact ⟨rfl, rfl⟩
end Go.Proofs.YtokcmaehojljdaaDoor

/- The walk of WirePuts. -/
namespace Go.Proofs.YtokcmaehojljdaaDoor
open Go.RowKit Go.Shelf Go.Proofs.YtokcmaehojljdaaDoorW.PrintWords Go.Proofs.YtokcmaehojljdaaDoorW.PrintLast Go.Proofs.YtokcmaehojljdaaDoorW.PrintMore

set_option maxHeartbeats 8000000 in
set_option maxRecDepth 100000 in
theorem puts_any (m : Ms) (v0 v1 v2 : Value) (w : World) (hm : MsOk w m v0 v1 v2) (hl : LaidE w) :
    Calls Tryd.prog 4 #[.agg (msL m v0 v1 v2).toArray] w fun e w' => e = .returned (.bool true) ∧ Below w.heap.size w w' := by
  have hs := hm.snap.hs
  have hra := Row.new w (msL m v0 v1 v2).toArray 31
  have hb0 := (Below.refl w.heap.size w).alloc (Nat.le_refl _) (.cells (msL m v0 v1 v2).toArray 31)
  have HX := Sec.mk hm
  have H13 := Sec.mk (fun w' (hb : Below w.heap.size w w') => wcheck_any m v0 v1 v2 w' (hm.below hb))
  have H14 := Sec.mk (fun w' (hb : Below w.heap.size w w') => rwcheck_any m v0 v1 v2 w' (hm.below hb))
  have HG := Sec.mk (fun hc w' (hb : Below w.heap.size w w') => get_put m hm hc w' (hl.below hb))
  have HAW := Sec.mk (fun w' (hb : Below w.heap.size w w') => awake_any w' (hl.toLaid.below hb))
  clear hm
  go_enter Tryd.func4, Tryd.ntmps4
  go_upto_region 1 with (fail)
  refine wp_abs (fun W HW => ?_)
  rw [← HW.out] at hra hb0
  clear HW
  have hxa := ms_whole hra hs
  go_wp2_with (refine wpList_load_list rfl 31 (.tmp 1) rfl w.heap.size 0 rfl _ hxa ?_)
  refine (great_any m v0 v1 v2 _ (HX.out.below hb0)).mono ?_
  rintro e w1 ⟨⟨r, rfl⟩, hb1⟩
  have hra1 := hra.below hb1 hra.lt
  replace hb1 := hb0.trans (hb1.mono hb0.size)
  clear hxa hra hb0
  by_cases hr : 0 < r
  · have hd : decide (0 < r) = true := decide_eq_true hr
    go_wp2_with fail
    refine (HAW.out _ hb1).mono ?_
    rintro e w2 ⟨rfl, hb2⟩
    go_wp2_with fail
    go_ret
    exact ⟨rfl, hb1.trans (hb2.mono hb1.size)⟩
  · have hd : decide (0 < r) = false := decide_eq_false hr
    have hxa := ms_whole hra1 hs
    go_wp2_with (refine wpList_load_list rfl 31 (.tmp 1) rfl w.heap.size 0 rfl _ hxa ?_)
    refine (put_any m v0 v1 v2 _ (HX.out.below hb1) (hl.below hb1).toLaid).mono ?_
    rintro e w2 ⟨rfl, hb2⟩
    have hra2 := hra1.below hb2 hra1.lt
    replace hb2 := hb1.trans (hb2.mono hb1.size)
    clear hxa hra1 hb1
    have hxa := ms_whole hra2 hs
    go_wp2_with (refine wpList_load_list rfl 31 (.tmp 1) rfl w.heap.size 0 rfl _ hxa ?_)
    refine (rput_ms m v0 v1 v2 _ (HX.out.below hb2)).mono ?_
    rintro e w3 ⟨rfl, hb3⟩
    have hra3 := hra2.below hb3 hra2.lt
    replace hb3 := hb2.trans (hb3.mono hb2.size)
    clear hxa hra2 hb2 hd hr
    obtain ⟨z, hz⟩ : ∃ z, z = checkMs m := ⟨_, rfl⟩
    have HZ := Sec.mk hz.symm
    rw [← hz]
    clear hz
    obtain ⟨pm, hpm⟩ : ∃ pm, pm = putMs m := ⟨_, rfl⟩
    have HP := Sec.mk hpm.symm
    rw [← hpm]
    clear hpm
    go_upto_region 5 with (fail)
    have RM := Sec.mk (fun w' (h : Below w3.heap.size w3 w') => hra3.below h hra3.lt)
    refine wp_region_below w3.heap.size (by kernel_rfl) (by kernel_rfl) ?_
    refine wpQuiet_step (fun K hK => ?_)
    refine wq_load_list rfl 31 (.tmp 1) rfl w.heap.size 0 rfl _ (fun w' h => ms_whole (RM.out w' h) hs) ?_
    go_simp
    refine hK _ ?_
    clear hK K
    refine wpQuiet_step (fun K hK => ?_)
    refine wq_call (v := .int .i64 z) (f := 13) (args := #[.agg (msL m v0 v1 v2).toArray]) rfl (fun _ _ => by go_simp) (fun w' hC => (H13.out w' (hb3.trans (hC.mono hb3.size))).mono (fun e w'' ⟨h1, h2⟩ => ⟨by rw [h1, HZ.out], hC.trans (h2.mono hC.size)⟩)) ?_
    go_simp
    refine hK _ ?_
    clear hK K
    refine wpQuiet_step (fun K hK => ?_)
    refine wq_load_list rfl 31 (.tmp 1) rfl w.heap.size 0 rfl _ (fun w' h => ms_whole (RM.out w' h) hs) ?_
    go_simp
    refine hK _ ?_
    clear hK K
    refine wpQuiet_step (fun K hK => ?_)
    refine wq_call (v := .int .i64 z) (f := 14) (args := #[.agg (msL m v0 v1 v2).toArray]) rfl (fun _ _ => by go_simp) (fun w' hC => (H14.out w' (hb3.trans (hC.mono hb3.size))).mono (fun e w'' ⟨h1, h2⟩ => ⟨by rw [h1, HZ.out], hC.trans (h2.mono hC.size)⟩)) ?_
    go_simp
    refine hK _ ?_
    clear hK K
    refine wpQuiet_step (fun K hK => ?_)
    refine wq_value (v := .bool false) rfl (fun w' h => by go_simp; try rfl) ?_
    go_simp
    refine hK _ ?_
    clear hK K
    refine wpQuiet_step (fun K hK => ?_)
    refine wq_value (v := .bool false) rfl (fun w' h => by go_simp; try rfl) ?_
    go_simp
    refine hK _ ?_
    clear hK K
    refine wpQuiet_step (fun K hK => ?_)
    refine wq_value (v := .string pm) rfl (fun w' h => by go_simp; try rfl) ?_
    go_simp
    refine hK _ ?_
    clear hK K
    refine wpQuiet_step (fun K hK => ?_)
    refine wq_value (v := .string pm) rfl (fun w' h => by go_simp; try rfl) ?_
    go_simp
    refine hK _ ?_
    clear hK K
    refine wpQuiet_step (fun K hK => ?_)
    refine wq_value (v := .bool false) rfl (fun w' h => by go_simp; try rfl) ?_
    go_simp
    refine hK _ ?_
    clear hK K
    refine wpQuiet_step (fun K hK => ?_)
    refine wq_value (v := .bool false) rfl (fun w' h => by go_simp; try rfl) ?_
    go_simp
    refine hK _ ?_
    clear hK K
    refine wpQuiet_step (fun K hK => ?_)
    refine wq_value (v := .bool false) rfl (fun w' h => by go_simp; try rfl) ?_
    go_simp
    refine hK _ ?_
    clear hK K
    refine wpQuiet_step (fun K hK => ?_)
    refine wq_value (v := .int .i64 z) rfl (fun w' h => by go_simp; try rfl) ?_
    go_simp
    refine hK _ ?_
    clear hK K
    refine wpQuiet_step (fun K hK => ?_)
    refine wq_value (v := .int .i64 z) rfl (fun w' h => by go_simp; try rfl) ?_
    go_simp
    refine hK _ ?_
    clear hK K
    refine wpQuiet_step (fun K hK => ?_)
    refine wq_value (v := .bool false) rfl (fun w' h => by go_simp; try rfl) ?_
    go_simp
    refine hK _ ?_
    clear hK K
    refine wpQuiet_step (fun K hK => ?_)
    refine wq_value (v := .bool false) rfl (fun w' h => by go_simp; try rfl) ?_
    go_simp
    refine hK _ ?_
    clear hK K
    refine wpQuiet_nil ?_
    go_simp
    intro w5 hb5'
    have hra5 := RM.out _ hb5'
    have hb5 := hb3.trans (hb5'.mono hb3.size)
    clear RM hra3 hb3 hb5' H13 H14
    by_cases h0 : z = 0
    · subst h0
      have HGG := Sec.mk (HG.out HZ.out)
      rw [HP.out] at HGG
      go_wp2_with fail
      refine (HGG.out _ hb5).mono ?_
      rintro e w6 ⟨⟨u0, u1, u2, rfl, hok⟩, hb6⟩
      have hra6 := hra5.below hb6 hra5.lt
      replace hb6 := hb5.trans (hb6.mono hb5.size)
      have HOK := Sec.mk hok
      have sizeM : (Tryd.prog.info? 31).map (·.size) = some (msL m u0 u1 u2).toArray.size := by
        rw [List.size_toArray, msL_len hs]; kernel_rfl
      have holdM : (msL ms0 (.slice none 0 0) (.slice none 0 0) (.slice none 0 0)).toArray.size = (msL m u0 u1 u2).toArray.size := by
        rw [List.size_toArray, List.size_toArray, msL_len hs, msL_len (by decide)]
      have oneM := msL_one m hok.snap.h0.one hok.snap.h1.one hok.snap.h2.one
      have hbA := below_row ((Below.refl w6.heap.size w6).alloc (Nat.le_refl _) (.cells (msL ms0 (.slice none 0 0) (.slice none 0 0) (.slice none 0 0)).toArray 31)) (Nat.le_refl _) (msL m u0 u1 u2).toArray
      have hx7 := (Row.new w6 (msL ms0 (.slice none 0 0) (.slice none 0 0) (.slice none 0 0)).toArray 31).row (C := (msL m u0 u1 u2).toArray)
      have hra7 := hra6.below hbA hra6.lt
      have hok7 := HOK.out.below hbA
      have hb7 := hb6.trans (hbA.mono hb6.size)
      clear hra5 hb5 hok hra6
      go_upto_region 10 with (refine wpList_store_row rfl 31 (.tmp 7) (.tmp 44) rfl w6.heap.size (msL m u0 u1 u2).toArray rfl rfl 31 _ (Row.new w6 (msL ms0 (.slice none 0 0) (.slice none 0 0) (.slice none 0 0)).toArray 31) sizeM holdM oneM ?_)
      refine wp_abs (fun W7 HW => ?_)
      replace hx7 : Row W7 w6.heap.size 31 (msL m u0 u1 u2).toArray := by rw [HW.out]; exact hx7
      replace hra7 : Row W7 w.heap.size 31 (msL m v0 v1 v2).toArray := by rw [HW.out]; exact hra7
      replace hok7 : MsOk W7 m u0 u1 u2 := by rw [HW.out]; exact hok7
      replace hb7 : Below w.heap.size w W7 := by rw [HW.out]; exact hb7
      clear HW sizeM holdM oneM hbA hb6
      have HS := Sec.mk (same_any m m u0 u1 u2 v0 v1 v2 W7 hok7 (HX.out.below hb7))
      have hxa := ms_whole hra7 hs
      have hxb := ms_whole hx7 hs
      clear hok7 hra7 hx7
      go_wp2_with (first
        | refine wpList_load_list rfl 31 (.tmp 7) rfl w6.heap.size 0 rfl _ hxb ?_
        | refine wpList_load_list rfl 31 (.tmp 1) rfl w.heap.size 0 rfl _ hxa ?_)
      refine HS.out.mono ?_
      rintro e w8 ⟨⟨r, rfl, hrr⟩, hb8⟩
      obtain rfl : r = true := hrr.2 trivial
      replace hb8 := hb7.trans (hb8.mono hb7.size)
      clear hrr hxa hxb
      go_wp2_with fail
      refine (HAW.out _ hb8).mono ?_
      rintro e w9 ⟨rfl, hb9⟩
      go_wp2_with fail
      go_ret
      exact ⟨rfl, hb8.trans (hb9.mono hb8.size)⟩
    · have hz1 : (z != 0) = true := bne_iff_ne.2 h0
      have hz2 : (z == 0) = false := beq_eq_false_iff_ne.2 h0
      go_wp2_with fail
      refine (HAW.out _ hb5).mono ?_
      rintro e w9 ⟨rfl, hb9⟩
      go_wp2_with fail
      go_ret
      exact ⟨rfl, hb5.trans (hb9.mono hb5.size)⟩
end Go.Proofs.YtokcmaehojljdaaDoor

/- A message that came in: opened. -/
namespace Go.Proofs.YtokcmaehojljdaaDoor
open Go.ChangeShapes Go.WideShapes Go.ChangeAt Go.RowKit Go.Proofs.YtokcmaehojljdaaDoorW.PrintWords Go.Proofs.YtokcmaehojljdaaDoorW.PrintLast Go.Proofs.YtokcmaehojljdaaDoorW.PrintMore

theorem piece {α : Type} (l : List α) (o n : Nat) (P R : List α) (h1 : (l.drop o).take n = P) (h2 : l.drop (o + n) = R) : l.drop o = P ++ R := by
  rw [← List.take_append_drop n (l.drop o), h1, List.drop_drop, h2]
theorem drop_end {α : Type} (l : List α) (n : Nat) (h : l.length = n) : l.drop n = [] := List.drop_of_length_le (by omega)
section
variable {H : Type} {enc : TypeId × Value → H} {w : World} {base : Nat} {spare : Nat → Bool} {held : Bool}
theorem trod_sum {fuel : Nat} {cs : List Value} {x : DataW H × List MemPlace} (h : DataW.trod enc Tryd.prog w base spare held fuel 26 cs = some x) : ∃ L : List UInt8, cs = Lib.byteCells L ∧ L.length = 32 := by
  obtain ⟨xs, m, rfl, rfl, hl, hx, hi⟩ := DataW.trod_array Tryd.underlying26 h
  have c26 : Tryd.prog.cellsOf 26 = 32 := by kernel_rfl
  have c5 : Tryd.prog.cellsOf 5 = 1 := by kernel_rfl
  rw [c26] at hl
  rw [c5] at hi
  have hone : ∀ i, i < 32 → ∃ u : UInt8, cs[i]? = some (.int .u8 (u.toNat : Int)) := by
    intro i h1
    have h2 := hi i h1
    rw [List.getElem?_eq_getElem (by omega)] at h2
    obtain ⟨k, hk, hz, hw⟩ := DataW.trod_int Tryd.underlying5 h2
    have hb := bounds_u8 hw
    refine ⟨UInt8.ofNat k.toNat, ?_⟩
    rw [Nat.mul_one] at hk
    have : cs[i]? = ((cs.drop i).take 1)[0]? := by simp
    rw [this, hk]
    simp
    omega
  refine ⟨cs.map fun v => match v with | .int _ y => UInt8.ofNat y.toNat | _ => 0, ?_, by simp [hl]⟩
  apply List.ext_getElem?
  intro i
  by_cases h1 : i < 32
  · obtain ⟨u, hu⟩ := hone i h1
    simp [Lib.byteCells, hu]
  · have : cs[i]? = none := List.getElem?_eq_none (by omega)
    simp [Lib.byteCells, this]
set_option maxRecDepth 100000 in
theorem open_lists {fuel : Nat} {cs : List Value} {x : DataW H × List MemPlace} (h : DataW.trod enc Tryd.prog w 0 (fun _ => true) true fuel 24 cs = some x) (hsz : ∀ n ∈ x.1.weights Tryd.prog 24, n ≤ reachBytes) :
    ∃ v0 v1 v2 l0 l1 l2, cs = [v0, v1, v2] ∧ TextsAt w v0 l0 ∧ TextsAt w v1 l1 ∧ TextsAt w v2 l2 := by
  obtain ⟨xs, m, rfl, rfl, hl, hx, hi⟩ := DataW.trod_array Tryd.underlying24 h
  have c24 : Tryd.prog.cellsOf 24 = 3 := by kernel_rfl
  rw [c24] at hl
  rw [cells23] at hi
  obtain ⟨v0, v1, v2, rfl⟩ : ∃ v0 v1 v2, cs = [v0, v1, v2] := by
    match cs, hl with
    | [v0, v1, v2], _ => exact ⟨v0, v1, v2, rfl⟩
  have hone : ∀ i (hi3 : i < 3) v, ([v0, v1, v2].drop (i * 1)).take 1 = [v] → ∃ l, TextsAt w v l := by
    intro i h1 v hv
    have h2 := hi i h1
    rw [hv, List.getElem?_eq_getElem (by omega)] at h2
    refine open_texts h2 (fun n hn => hsz n ?_)
    simp only [DataW.weights, Tryd.underlying24]
    exact weightsAll_mem (List.mem_map.2 ⟨_, List.getElem_mem _, rfl⟩) n hn
  obtain ⟨l0, t0⟩ := hone 0 (by decide) v0 rfl
  obtain ⟨l1, t1⟩ := hone 1 (by decide) v1 rfl
  obtain ⟨l2, t2⟩ := hone 2 (by decide) v2 rfl
  exact ⟨v0, v1, v2, l0, l1, l2, rfl, t0, t1, t2⟩
set_option maxRecDepth 100000 in
theorem open_sn {fuel : Nat} {cs : List Value} {x : DataW H × List MemPlace} (h : DataW.trod enc Tryd.prog w 0 (fun _ => true) true fuel 28 cs = some x) (hsz : ∀ n ∈ x.1.weights Tryd.prog 28, n ≤ reachBytes) :
    ∃ s v0 v1 v2, cs = snL s v0 v1 v2 ∧ SnOk w s v0 v1 v2 := by
  obtain ⟨xs, m, rfl, rfl, hl, hx, hi⟩ := DataW.trod_struct Tryd.underlying28 h
  have c28 : Tryd.prog.cellsOf 28 = 41 := by kernel_rfl
  have c9 : Tryd.prog.cellsOf 9 = 1 := by kernel_rfl
  have c2 : Tryd.prog.cellsOf 2 = 1 := by kernel_rfl
  have c3 : Tryd.prog.cellsOf 3 = 1 := by kernel_rfl
  have c22 : Tryd.prog.cellsOf 22 = 1 := by kernel_rfl
  have c24 : Tryd.prog.cellsOf 24 = 3 := by kernel_rfl
  have c26 : Tryd.prog.cellsOf 26 = 32 := by kernel_rfl
  rw [c28] at hl
  have hx8 : xs.length = 8 := hx
  have hw : ∀ (j : Nat) (hj : j < 8) (t : TypeId), ([9, 3, 2, 22, 3, 3, 24, 26] : List TypeId)[j]? = some t → ∀ n ∈ (xs[j]'(by omega)).1.weights Tryd.prog t, n ≤ reachBytes := by
    intro j hj t ht n hn
    refine hsz n ?_
    simp only [DataW.weights, Tryd.underlying28]
    exact DataW.weights_mem_each (j := j) (t := t) ht (by rw [List.getElem?_map, List.getElem?_eq_getElem (by omega)]; rfl) n hn
  have g0 : DataW.trod enc Tryd.prog w 0 (fun _ => true) true m 9 ((cs.drop 0).take (Tryd.prog.cellsOf 9)) = xs[0]? := by
    have g := hi 0 _ rfl
    exact g
  have g1 : DataW.trod enc Tryd.prog w 0 (fun _ => true) true m 3 ((cs.drop 1).take (Tryd.prog.cellsOf 3)) = xs[1]? := by
    have g := hi 1 _ rfl
    exact g
  have g2 : DataW.trod enc Tryd.prog w 0 (fun _ => true) true m 2 ((cs.drop 2).take (Tryd.prog.cellsOf 2)) = xs[2]? := by
    have g := hi 2 _ rfl
    exact g
  have g3 : DataW.trod enc Tryd.prog w 0 (fun _ => true) true m 22 ((cs.drop 3).take (Tryd.prog.cellsOf 22)) = xs[3]? := by
    have g := hi 3 _ rfl
    exact g
  have g4 : DataW.trod enc Tryd.prog w 0 (fun _ => true) true m 3 ((cs.drop 4).take (Tryd.prog.cellsOf 3)) = xs[4]? := by
    have g := hi 4 _ rfl
    exact g
  have g5 : DataW.trod enc Tryd.prog w 0 (fun _ => true) true m 3 ((cs.drop 5).take (Tryd.prog.cellsOf 3)) = xs[5]? := by
    have g := hi 5 _ rfl
    exact g
  have g6 : DataW.trod enc Tryd.prog w 0 (fun _ => true) true m 24 ((cs.drop 6).take (Tryd.prog.cellsOf 24)) = xs[6]? := by
    have g := hi 6 _ rfl
    exact g
  have g7 : DataW.trod enc Tryd.prog w 0 (fun _ => true) true m 26 ((cs.drop 9).take (Tryd.prog.cellsOf 26)) = xs[7]? := by
    have g := hi 7 _ rfl
    exact g
  rw [List.getElem?_eq_getElem (by omega)] at g0 g1 g2 g3 g4 g5 g6 g7
  obtain ⟨mach, p0, z0, y0⟩ := DataW.trod_string Tryd.underlying9 g0
  obtain ⟨n, p1, _, y1⟩ := DataW.trod_int Tryd.underlying3 g1
  obtain ⟨at_, p2, _, y2⟩ := DataW.trod_int Tryd.underlying2 g2
  obtain ⟨clock, p3, _, y3⟩ := DataW.trod_int Tryd.underlying22 g3
  obtain ⟨pages, p4, _, y4⟩ := DataW.trod_int Tryd.underlying3 g4
  obtain ⟨blocks, p5, _, y5⟩ := DataW.trod_int Tryd.underlying3 g5
  obtain ⟨v0, v1, v2, l0, l1, l2, p6, t0, t1, t2⟩ := open_lists g6 (hw 6 (by decide) 24 rfl)
  obtain ⟨sum, p7, hsum⟩ := trod_sum g7
  have hm : mach.size ≤ 140737488351232 := by
    have := hw 0 (by decide) 9 rfl mach.size (by rw [z0]; simp [DataW.weights])
    exact this
  simp only [c9, c2, c3, c22, c24, c26] at p0 p1 p2 p3 p4 p5 p6 p7
  refine ⟨⟨mach, n, at_, clock, pages, blocks, l0, l1, l2, sum⟩, v0, v1, v2, ?_, ⟨t0, t1, t2, hsum, hm, bounds_i64 y1, bounds_i64 y2, bounds_u64 y3, bounds_i64 y4, bounds_i64 y5⟩⟩
  have q7 := piece cs 9 32 _ _ p7 (drop_end cs 41 hl)
  have q6 := piece cs 6 3 _ _ p6 q7
  have q5 := piece cs 5 1 _ _ p5 q6
  have q4 := piece cs 4 1 _ _ p4 q5
  have q3 := piece cs 3 1 _ _ p3 q4
  have q2 := piece cs 2 1 _ _ p2 q3
  have q1 := piece cs 1 1 _ _ p1 q2
  have q0 := piece cs 0 1 _ _ p0 q1
  rw [List.drop_zero] at q0
  rw [q0]
  simp [snL]
set_option maxRecDepth 100000 in
theorem open_ms {fuel : Nat} {cs : List Value} {x : DataW H × List MemPlace} (h : DataW.trod enc Tryd.prog w 0 (fun _ => true) true fuel 31 cs = some x) (hsz : ∀ n ∈ x.1.weights Tryd.prog 31, n ≤ reachBytes) :
    ∃ m v0 v1 v2, cs = msL m v0 v1 v2 ∧ MsOk w m v0 v1 v2 := by
  obtain ⟨xs, m, rfl, rfl, hl, hx, hi⟩ := DataW.trod_struct Tryd.underlying31 h
  have c31 : Tryd.prog.cellsOf 31 = 45 := by kernel_rfl
  have c28 : Tryd.prog.cellsOf 28 = 41 := by kernel_rfl
  have c9 : Tryd.prog.cellsOf 9 = 1 := by kernel_rfl
  have c29 : Tryd.prog.cellsOf 29 = 1 := by kernel_rfl
  have c3 : Tryd.prog.cellsOf 3 = 1 := by kernel_rfl
  rw [c31] at hl
  have hx8 : xs.length = 5 := hx
  have hw : ∀ (j : Nat) (hj : j < 5) (t : TypeId), ([3, 9, 28, 3, 29] : List TypeId)[j]? = some t → ∀ n ∈ (xs[j]'(by omega)).1.weights Tryd.prog t, n ≤ reachBytes := by
    intro j hj t ht n hn
    refine hsz n ?_
    simp only [DataW.weights, Tryd.underlying31]
    exact DataW.weights_mem_each (j := j) (t := t) ht (by rw [List.getElem?_map, List.getElem?_eq_getElem (by omega)]; rfl) n hn
  have g0 : DataW.trod enc Tryd.prog w 0 (fun _ => true) true m 3 ((cs.drop 0).take (Tryd.prog.cellsOf 3)) = xs[0]? := by
    have g := hi 0 _ rfl
    exact g
  have g1 : DataW.trod enc Tryd.prog w 0 (fun _ => true) true m 9 ((cs.drop 1).take (Tryd.prog.cellsOf 9)) = xs[1]? := by
    have g := hi 1 _ rfl
    exact g
  have g2 : DataW.trod enc Tryd.prog w 0 (fun _ => true) true m 28 ((cs.drop 2).take (Tryd.prog.cellsOf 28)) = xs[2]? := by
    have g := hi 2 _ rfl
    exact g
  have g3 : DataW.trod enc Tryd.prog w 0 (fun _ => true) true m 3 ((cs.drop 43).take (Tryd.prog.cellsOf 3)) = xs[3]? := by
    have g := hi 3 _ rfl
    exact g
  have g4 : DataW.trod enc Tryd.prog w 0 (fun _ => true) true m 29 ((cs.drop 44).take (Tryd.prog.cellsOf 29)) = xs[4]? := by
    have g := hi 4 _ rfl
    exact g
  rw [List.getElem?_eq_getElem (by omega)] at g0 g1 g2 g3 g4
  obtain ⟨kind, p0, _, y0⟩ := DataW.trod_int Tryd.underlying3 g0
  obtain ⟨data, p1, z1, y1⟩ := DataW.trod_string Tryd.underlying9 g1
  obtain ⟨s, v0, v1, v2, p2, hs⟩ := open_sn g2 (hw 2 (by decide) 28 rfl)
  obtain ⟨n, p3, _, y3⟩ := DataW.trod_int Tryd.underlying3 g3
  obtain ⟨why, p4, _, y4⟩ := DataW.trod_int Tryd.underlying29 g4
  have hm : data.size ≤ 140737488351232 := by
    have := hw 1 (by decide) 9 rfl data.size (by rw [z1]; simp [DataW.weights])
    exact this
  simp only [c28, c9, c29, c3] at p0 p1 p2 p3 p4
  refine ⟨⟨kind, data, s, n, why⟩, v0, v1, v2, ?_, ⟨hs, bounds_i64 y0, hm, bounds_i64 y3, bounds_i64 y4⟩⟩
  have q4 := piece cs 44 1 _ _ p4 (drop_end cs 45 hl)
  have q3 := piece cs 43 1 _ _ p3 q4
  have q2 := piece cs 2 41 _ _ p2 q3
  have q1 := piece cs 1 1 _ _ p1 q2
  have q0 := piece cs 0 1 _ _ p0 q1
  rw [List.drop_zero] at q0
  rw [q0]
  simp [msL]
set_option maxRecDepth 100000 in
theorem open_msg {r : Reach} {b : Nat} {v : Value} {d : DataW H} {p : List MemPlace} (hval : Value.okWide Tryd.prog w r b 31 v) (h : DataW.Trod enc Tryd.prog w 0 (fun _ => true) true 31 v d p) (hsz : ∀ n ∈ d.weights Tryd.prog 31, n ≤ reachBytes) :
    ∃ m v0 v1 v2, v = .agg (msL m v0 v1 v2).toArray ∧ MsOk w m v0 v1 v2 := by
  obtain ⟨cs, rfl, _⟩ := okWide_struct Tryd.underlying31 hval
  obtain ⟨fuel, hf⟩ := h
  obtain ⟨m, v0, v1, v2, e, hm⟩ := open_ms hf hsz
  refine ⟨m, v0, v1, v2, ?_, hm⟩
  rw [← e]
  simp [Value.cells]
end
end Go.Proofs.YtokcmaehojljdaaDoor
