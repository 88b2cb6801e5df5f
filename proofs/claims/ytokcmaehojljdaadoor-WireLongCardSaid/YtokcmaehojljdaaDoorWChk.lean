/- wire.Check: its walk. -/
import Derived.Test.YtokcmaehojljdaaDoorChk
import Derived.Deep.RegionHeld
import Derived.OrdersHeld
namespace Go.Proofs.YtokcmaehojljdaaDoor
open Go.RowKit Go.Shelf Go.Proofs.YtokcmaehojljdaaDoorW.PrintWords Go.Proofs.YtokcmaehojljdaaDoorW.PrintLast Go.Proofs.YtokcmaehojljdaaDoorW.PrintMore

theorem yi_load_list {P : Program} {ops : Array Oper} {S : World → Prop} {a : Act} {o : Oper} (hw : Region.wanted o (yielded ops a.tmps) = true) (ty : TypeId) (x : Operand) (ho : o.op = .load ty x)
    (b off : Nat) (hx : a.eval x = .pointer (some ⟨b, off, none⟩)) (V : Array Value) (hl : ∀ w, S w → (loadVar ty ⟨b, off, none⟩).run P w = .ok (.agg V) w) : YieldsIf P ops S o (.agg V) a :=
  .inl ⟨hw, fun w hC => by
    unfold execOp
    simp only [ho, hx, Instr.loadAt, Instr.sureAddr, Sem.run_bind, Sem.run_pure, Result.andThen_ok, hl w hC]⟩
theorem ms_cells {w : World} {b : Nat} {m : Ms} {v0 v1 v2 : Value} (h : Row w b 31 (msL m v0 v1 v2).toArray) (hs : m.snap.sum.length = 32) :
    w.cell? ⟨b, 0, none⟩ = some (.int .i64 m.kind) ∧ w.cell? ⟨b, 1, none⟩ = some (.string m.data) ∧ w.cell? ⟨b, 43, none⟩ = some (.int .i64 m.n) ∧ w.cell? ⟨b, 44, none⟩ = some (.int .i64 m.why) := by
  have hl := snL_len (s := m.snap) (v0 := v0) (v1 := v1) (v2 := v2) hs
  refine ⟨h.at_ 0, h.at_ 1, (h.at_ 43).trans ?_, (h.at_ 44).trans ?_⟩
  · rw [msL, List.getElem?_append_right (by simp), List.getElem?_append_right (by simp [hl])]
    simp [hl]
  · rw [msL, List.getElem?_append_right (by simp), List.getElem?_append_right (by simp [hl])]
    simp [hl]
def hasL (r1 r2 r3 r4 : Bool) : List Value := [.bool r1, .bool r2, .bool r3, .bool r4]
def may1 (k : Int) : Bool := (k == 1) || (k == 2)
def okKind (k : Int) : Bool := decide (1 ≤ k) && decide (k ≤ 6)
theorem of_any_kind (k : Int) (w : World) : Calls Tryd.prog 24 #[.int .i64 k] w fun e w' => e = .returned (.tuple #[.agg (hasL (may1 k) (k == 3) (k == 4) (k == 5)).toArray, .bool (okKind k)]) ∧ Below w.heap.size w w' := by
  refine PWire.wire_of.calls 2 k _ _ _ _ _ w ?_
  unfold PWire.wire_of.f
  by_cases h1 : k = 1
  · subst h1; rfl
  by_cases h2 : k = 2
  · subst h2; rfl
  by_cases h3 : k = 3
  · subst h3; rfl
  by_cases h4 : k = 4
  · subst h4; rfl
  by_cases h5 : k = 5
  · subst h5; rfl
  rw [if_neg h1, PWire.wire_of.j0, if_neg (by simp [h2]), if_neg h3, if_neg h4, if_neg h5]
  have e : okKind k = (k == 6) := by
    unfold okKind
    by_cases h6 : k = 6
    · subst h6; rfl
    · rw [beq_eq_false_iff_ne.2 h6, Bool.and_eq_false_iff, decide_eq_false_iff_not, decide_eq_false_iff_not]; omega
  simp [may1, h1, h2, h3, h4, h5, e]
theorem i53 (r1 r2 r3 r4 : Bool) : (Tryd.prog.info? 53).map (·.size) = some (hasL r1 r2 r3 r4).toArray.size := by
  have e : (Tryd.prog.info? 53).map (·.size) = some 4 := by kernel_rfl
  rw [e]; rfl
theorem hasL_all (r1 r2 r3 r4 : Bool) : (hasL r1 r2 r3 r4).toArray.all (·.oneCell') = true := by simp [hasL]; exact ⟨rfl, rfl, rfl, rfl⟩
theorem run_exec_neq {P : Program} {o : Oper} {a : Act} {t : TypeId} {x y : Operand} {ty : TypeId} {xs ys : Array Value} {b : Bool} (w : World) (ho : o.op = .binOp .neq t x y ty) (hx : a.eval x = .agg xs) (hy : a.eval y = .agg ys)
    (hm : P.eqGuardType P.depth t = false) (h : (binOp .neq t (.agg xs) (.agg ys)).run P w = .ok (.bool b) w) : (execOp a.eval o).run P w = .ok (.value (.bool b)) w := by
  unfold execOp
  simp only [ho, hx, hy, Sem.run_bind, run_eqGuard_agg w .neq t x y xs ys hm, Result.andThen_ok, h, Sem.run_pure]
theorem has_neq (a b c d a' b' c' d' : Bool) (W : World) : (binOp .neq 53 (.agg (hasL a b c d).toArray) (.agg (hasL a' b' c' d').toArray)).run Tryd.prog W = .ok (.bool (!((a == a') && (b == b') && (c == c') && (d == d')))) W := by
  have h53 := Tryd.underlying53
  unfold hasL
  go_simp
  by_cases h1 : a = a' <;> by_cases h2 : b = b' <;> by_cases h3 : c = c' <;> by_cases h4 : d = d' <;> simp [h1, h2, h3, h4]
/-- Has a message just what its kind has? -/
def goodHas (m : Ms) : Bool := (((!m.data.toList.isEmpty) && may1 m.kind) == (!m.data.toList.isEmpty)) && (((!emptyB m.snap) && (m.kind == 3)) == (!emptyB m.snap)) && (((m.n != 0) && (m.kind == 4)) == (m.n != 0)) && (((m.why != 0) && (m.kind == 5)) == (m.why != 0))
def checkMs (m : Ms) : Int := if okKind m.kind = false then 11 else if goodHas m = false then 1 else if m.kind = 1 ∧ 65536 < m.data.size then 6 else
  if (m.kind = 2 ∧ (m.data.size < 1 ∨ 100 < m.data.size)) ∨ m.n < 0 ∨ (m.kind = 5 ∧ (m.why < 1 ∨ 23 < m.why)) then 1 else if m.kind = 3 then checkSn m.snap else 0
set_option maxHeartbeats 8000000 in
set_option maxRecDepth 100000 in
theorem wcheck_any (m : Ms) (v0 v1 v2 : Value) (w : World) (h : MsOk w m v0 v1 v2) :
    Calls Tryd.prog 13 #[.agg (msL m v0 v1 v2).toArray] w fun e w' => e = .returned (.int .i64 (checkMs m)) ∧ Below w.heap.size w w' := by
  have hs := h.snap.hs
  have HE := Sec.mk (fun w' (hb : Below w.heap.size w w') => empty_any m.snap v0 v1 v2 w' (h.snap.below hb))
  have hM := Row.new w (msL m v0 v1 v2).toArray 31
  have hb0 := (Below.refl w.heap.size w).alloc (Nat.le_refl _) (.cells (msL m v0 v1 v2).toArray 31)
  have hlt0 : w.heap.size < (w.alloc (.cells (msL m v0 v1 v2).toArray 31)).heap.size := by rw [size_alloc]; omega
  go_enter Tryd.func13, Tryd.ntmps13
  go_upto_region 1 with (fail)
  refine wp_abs (fun W HW => ?_)
  rw [← HW.out] at hM hb0 hlt0
  clear HW
  obtain ⟨k0, k1, k2, k3⟩ := ms_cells hM hs
  go_wp2_with fail
  refine (of_any_kind m.kind _).mono ?_
  rintro e w1 ⟨rfl, hb1⟩
  have hM1 : Row w1 w.heap.size 31 _ := hM.below hb1 hlt0
  replace hb1 := hb0.trans (hb1.mono hb0.size)
  clear hM hb0 k0 k1 k2 k3 hlt0
  have hR : Row (w1.alloc (.cells #[.bool false, .bool false, .bool false, .bool false] 53)) w1.heap.size 53 #[.bool false, .bool false, .bool false, .bool false] := Row.new w1 _ 53
  have hM2 := (hM1.alloc (.cells #[.bool false, .bool false, .bool false, .bool false] 53)).rowOther (by have := hM1.lt; omega : w.heap.size ≠ w1.heap.size) (hasL (may1 m.kind) (m.kind == 3) (m.kind == 4) (m.kind == 5)).toArray
  have hF2 := hR.row (C := (hasL (may1 m.kind) (m.kind == 3) (m.kind == 4) (m.kind == 5)).toArray)
  have hb2 := below_row (hb1.alloc hb1.size (.cells #[.bool false, .bool false, .bool false, .bool false] 53)) hb1.size (hasL (may1 m.kind) (m.kind == 3) (m.kind == 4) (m.kind == 5)).toArray
  have hFw : w.heap.size ≤ w1.heap.size := hb1.size
  generalize hok : okKind m.kind = ok
  generalize e1 : may1 m.kind = r1 at hM2 hF2 hb2 ⊢
  generalize e2 : (m.kind == 3) = r2 at hM2 hF2 hb2 ⊢
  generalize e3 : (m.kind == 4) = r3 at hM2 hF2 hb2 ⊢
  generalize e4 : (m.kind == 5) = r4 at hM2 hF2 hb2 ⊢
  have E1 := Sec.mk e1
  have E2 := Sec.mk e2
  have E3 := Sec.mk e3
  have E4 := Sec.mk e4
  clear e1 e2 e3 e4
  cases ok with
  | false =>
    go_wp2_with (refine wpList_store_row rfl 53 (.tmp 3) (.tmp 10) rfl w1.heap.size (hasL r1 r2 r3 r4).toArray rfl rfl 53 _ hR (i53 _ _ _ _) rfl (hasL_all _ _ _ _) ?_)
    go_ret
    exact ⟨by rw [checkMs, if_pos hok]; rfl, hb2⟩
  | true =>
    go_wp2_with (refine wpList_store_row rfl 53 (.tmp 3) (.tmp 10) rfl w1.heap.size (hasL r1 r2 r3 r4).toArray rfl rfl 53 _ hR (i53 _ _ _ _) rfl (hasL_all _ _ _ _) ?_)
    refine wp_abs (fun W2 HW => ?_)
    rw [← HW.out] at hM2 hF2 hb2
    clear HW hM1 hR hb1
    generalize w1.heap.size = F at *
    obtain ⟨d, hd⟩ : ∃ d, d = !m.data.toList.isEmpty := ⟨_, rfl⟩
    obtain ⟨nn, hnn⟩ : ∃ d, d = (m.n != 0) := ⟨_, rfl⟩
    obtain ⟨yy, hyy⟩ : ∃ d, d = (m.why != 0) := ⟨_, rfl⟩
    have HD := Sec.mk hd
    have HN := Sec.mk hnn
    have HY := Sec.mk hyy
    clear hd hnn hyy
    obtain ⟨em, hem⟩ : ∃ em, em = emptyB m.snap := ⟨_, rfl⟩
    have HM := Sec.mk hem
    clear hem
    go_cut [5] (fun v5 wc => ∃ G, v5 = .pointer (some ⟨G, 0, none⟩) ∧ Row wc G 53 (hasL (d && r1) (!em && r2) (nn && r3) (yy && r4)).toArray ∧ Row wc w.heap.size 31 (msL m v0 v1 v2).toArray ∧ Below w.heap.size w wc)
    case rest =>
      clear hM2 hF2 hb2 hFw W2
      obtain ⟨G, rfl, hG, hM2, hb2⟩ := hcut
      have RM := Sec.mk (fun w' (h : Below wc.heap.size wc w') => hM2.below h hM2.lt)
      have CM := Sec.mk (fun w' (h : Below wc.heap.size wc w') => ms_cells (hM2.below h hM2.lt) hs)
      go_upto_region 5 with (fail)
      obtain ⟨gv, hgv⟩ : ∃ gv, gv = !((d && r1) == d && (!em && r2) == (!em) && (nn && r3) == nn && (yy && r4) == yy) := ⟨_, rfl⟩
      have HGV := Sec.mk hgv
      have hG9 : gv = !goodHas m := by
        rw [hgv, ← E1.out, ← E2.out, ← E3.out, ← E4.out, HD.out, HN.out, HY.out, HM.out]; rfl
      have HG9 := Sec.mk hG9
      clear hgv hG9
      refine wp_region_below wc.heap.size (by kernel_rfl) (by kernel_rfl) ?_
      refine wpQuiet_step (fun K hK => ?_)
      refine wq_load_row rfl 53 (.tmp 5) rfl G rfl 53 (hasL (d && r1) (!em && r2) (nn && r3) (yy && r4)).toArray (0, 0) _ (fun w' h => hG.below h hG.lt) Tryd.underlying53 rfl (i53 _ _ _ _) ?_
      go_simp
      refine hK _ ?_
      clear hK K
      refine wpQuiet_step (fun K hK => ?_)
      refine wq_value (v := .pointer (some ⟨w.heap.size, 1, none⟩)) rfl (fun w' h => by go_simp; try rfl) ?_
      go_simp
      refine hK _ ?_
      clear hK K
      refine wpQuiet_step (fun K hK => ?_)
      refine wq_value (v := .string m.data) rfl (fun w' h => by have c := (CM.out w' h).2.1; go_simp; try rfl) ?_
      go_simp
      refine hK _ ?_
      clear hK K
      refine wpQuiet_step (fun K hK => ?_)
      refine wq_value (v := .bool d) rfl (fun w' h => by have e := HD.out; go_simp; try first | rfl | (rw [e]; done) | (rw [e]; rfl) | (simp [e]; done)) ?_
      go_simp
      refine hK _ ?_
      clear hK K
      refine wpQuiet_step (fun K hK => ?_)
      refine wq_value (v := .pointer (some ⟨w.heap.size, 2, none⟩)) rfl (fun w' h => by go_simp; try rfl) ?_
      go_simp
      refine hK _ ?_
      clear hK K
      refine wpQuiet_step (fun K hK => ?_)
      refine wq_load_list rfl 28 (.tmp 48) rfl w.heap.size 2 rfl _ (fun w' h => ms_snap (RM.out w' h) hs) ?_
      go_simp
      refine hK _ ?_
      clear hK K
      refine wpQuiet_step (fun K hK => ?_)
      refine wq_call (v := .bool em) (f := 25) (args := #[.agg (snL m.snap v0 v1 v2).toArray]) rfl (fun _ _ => by go_simp) (fun w' hC => (HE.out w' (hb2.trans (hC.mono hb2.size))).mono (fun e w'' ⟨h1, h2⟩ => ⟨by rw [h1, ← HM.out], hC.trans (h2.mono hC.size)⟩)) ?_
      go_simp
      refine hK _ ?_
      clear hK K
      refine wpQuiet_step (fun K hK => ?_)
      refine wq_value (v := .bool !em) rfl (fun w' h => by go_simp; try rfl) ?_
      go_simp
      refine hK _ ?_
      clear hK K
      refine wpQuiet_step (fun K hK => ?_)
      refine wq_value (v := .pointer (some ⟨w.heap.size, 43, none⟩)) rfl (fun w' h => by go_simp; try rfl) ?_
      go_simp
      refine hK _ ?_
      clear hK K
      refine wpQuiet_step (fun K hK => ?_)
      refine wq_value (v := .int .i64 m.n) rfl (fun w' h => by have c := (CM.out w' h).2.2.1; go_simp; try rfl) ?_
      go_simp
      refine hK _ ?_
      clear hK K
      refine wpQuiet_step (fun K hK => ?_)
      refine wq_value (v := .bool nn) rfl (fun w' h => by have e := HN.out; go_simp; try first | rfl | (rw [e]; done) | (rw [e]; rfl) | (simp [e]; done)) ?_
      go_simp
      refine hK _ ?_
      clear hK K
      refine wpQuiet_step (fun K hK => ?_)
      refine wq_value (v := .pointer (some ⟨w.heap.size, 44, none⟩)) rfl (fun w' h => by go_simp; try rfl) ?_
      go_simp
      refine hK _ ?_
      clear hK K
      refine wpQuiet_step (fun K hK => ?_)
      refine wq_value (v := .int .i64 m.why) rfl (fun w' h => by have c := (CM.out w' h).2.2.2; go_simp; try rfl) ?_
      go_simp
      refine hK _ ?_
      clear hK K
      refine wpQuiet_step (fun K hK => ?_)
      refine wq_value (v := .bool yy) rfl (fun w' h => by have e := HY.out; go_simp; try first | rfl | (rw [e]; done) | (rw [e]; rfl) | (simp [e]; done)) ?_
      go_simp
      refine hK _ ?_
      clear hK K
      refine wpQuiet_step (fun K hK => ?_)
      refine wq_value (v := .agg (hasL d (!em) nn yy).toArray) rfl (fun w' h => by go_simp; try rfl) ?_
      go_simp
      refine hK _ ?_
      clear hK K
      refine wpQuiet_step (fun K hK => ?_)
      refine wq_value (v := .bool gv) rfl (fun w' h => run_exec_neq w' rfl rfl rfl (by kernel_rfl) (by rw [HGV.out]; exact has_neq _ _ _ _ _ _ _ _ w')) ?_
      go_simp
      refine hK _ ?_
      clear hK K
      refine wpQuiet_nil ?_
      go_simp
      intro w5 hb5
      rw [HG9.out]
      have hck : checkMs m = if goodHas m = false then 1 else if m.kind = 1 ∧ 65536 < m.data.size then 6 else
        if (m.kind = 2 ∧ (m.data.size < 1 ∨ 100 < m.data.size)) ∨ m.n < 0 ∨ (m.kind = 5 ∧ (m.why < 1 ∨ 23 < m.why)) then 1 else if m.kind = 3 then checkSn m.snap else 0 := by
        rw [checkMs, if_neg (by rw [hok]; decide)]
      have HC := Sec.mk hck
      clear hck
      have hM5 := RM.out _ hb5
      have hb5' := hb2.trans (hb5.mono hb2.size)
      have h5 := h.snap.below hb5'
      clear RM CM hM2 hb2 hb5 HD HN HY HM E1 E2 E3 E4 HE HGV HG9
      have hkr : 1 ≤ m.kind ∧ m.kind ≤ 6 := by
        rw [okKind, Bool.and_eq_true, decide_eq_true_eq, decide_eq_true_eq] at hok
        exact hok
      clear hok
      generalize goodHas m = gh at HC ⊢
      cases gh with
      | false =>
        go_wp2_with fail
        go_ret
        exact ⟨by rw [HC.out]; rfl, hb5'⟩
      | true =>
        obtain ⟨k0, k1, k2, k3⟩ := ms_cells hM5 hs
        have hsn := Sec.mk (ms_snap hM5 hs)
        have HV := Sec.mk (HC.out.trans (if_neg (by decide)))
        clear HC hM5
        have H5 := Sec.mk h5
        clear h5 h hs
        have hkc : m.kind = 1 ∨ m.kind = 2 ∨ m.kind = 3 ∨ m.kind = 4 ∨ m.kind = 5 ∨ m.kind = 6 := by omega
        clear hkr
        have HB5 := Sec.mk hb5'
        clear hb5'
        rcases hkc with hk | hk | hk | hk | hk | hk
        · rw [hk] at k0
          have HK := Sec.mk hk
          clear hk
          by_cases c1 : (65536 : Int) < m.data.size
          · 
            have C1 := Sec.mk c1
            have d1 : decide ((65536 : Int) < m.data.size) = true := decide_eq_true c1
            have e1 : decide (65536 < m.data.size) = true := decide_eq_true (by omega)
            clear c1
            as_aux_lemma =>
              go_wp2_with fail
              go_ret
              exact ⟨by rw [HV.out, if_pos (by have := HK.out; have := C1.out; omega)]; rfl, HB5.out⟩
          · 
            have C1 := Sec.mk c1
            have d1 : decide ((65536 : Int) < m.data.size) = false := decide_eq_false c1
            have e1 : decide (65536 < m.data.size) = false := decide_eq_false (by omega)
            clear c1
            by_cases c2 : m.n < 0
            · 
              have C2 := Sec.mk c2
              have d2 : decide (m.n < 0) = true := decide_eq_true c2
              clear c2
              as_aux_lemma =>
                go_wp2_with fail
                go_ret
                exact ⟨by rw [HV.out, if_neg (by have := HK.out; have := C1.out; have := C2.out; omega), if_pos (by have := HK.out; have := C1.out; have := C2.out; omega)]; rfl, HB5.out⟩
            · 
              have C2 := Sec.mk c2
              have d2 : decide (m.n < 0) = false := decide_eq_false c2
              clear c2
              as_aux_lemma =>
                go_wp2_with fail
                go_ret
                exact ⟨by rw [HV.out, if_neg (by have := HK.out; have := C1.out; have := C2.out; omega), if_neg (by have := HK.out; have := C1.out; have := C2.out; omega), if_neg (by have := HK.out; have := C1.out; have := C2.out; omega)]; rfl, HB5.out⟩
        · rw [hk] at k0
          have HK := Sec.mk hk
          clear hk
          by_cases c3 : (m.data.size : Int) < 1
          · 
            have C3 := Sec.mk c3
            have d3 : decide ((m.data.size : Int) < 1) = true := decide_eq_true c3
            have e3 : decide (m.data.size < 1) = true := decide_eq_true (by omega)
            clear c3
            as_aux_lemma =>
              go_wp2_with fail
              go_ret
              exact ⟨by rw [HV.out, if_neg (by have := HK.out; have := C3.out; omega), if_pos (by have := HK.out; have := C3.out; omega)]; rfl, HB5.out⟩
          · 
            have C3 := Sec.mk c3
            have d3 : decide ((m.data.size : Int) < 1) = false := decide_eq_false c3
            have e3 : decide (m.data.size < 1) = false := decide_eq_false (by omega)
            clear c3
            by_cases c4 : (100 : Int) < m.data.size
            · 
              have C4 := Sec.mk c4
              have d4 : decide ((100 : Int) < m.data.size) = true := decide_eq_true c4
              have e4 : decide (100 < m.data.size) = true := decide_eq_true (by omega)
              clear c4
              as_aux_lemma =>
                go_wp2_with fail
                go_ret
                exact ⟨by rw [HV.out, if_neg (by have := HK.out; have := C3.out; have := C4.out; omega), if_pos (by have := HK.out; have := C3.out; have := C4.out; omega)]; rfl, HB5.out⟩
            · 
              have C4 := Sec.mk c4
              have d4 : decide ((100 : Int) < m.data.size) = false := decide_eq_false c4
              have e4 : decide (100 < m.data.size) = false := decide_eq_false (by omega)
              clear c4
              by_cases c2 : m.n < 0
              · 
                have C2 := Sec.mk c2
                have d2 : decide (m.n < 0) = true := decide_eq_true c2
                clear c2
                as_aux_lemma =>
                  go_wp2_with fail
                  go_ret
                  exact ⟨by rw [HV.out, if_neg (by have := HK.out; have := C3.out; have := C4.out; have := C2.out; omega), if_pos (by have := HK.out; have := C3.out; have := C4.out; have := C2.out; omega)]; rfl, HB5.out⟩
              · 
                have C2 := Sec.mk c2
                have d2 : decide (m.n < 0) = false := decide_eq_false c2
                clear c2
                as_aux_lemma =>
                  go_wp2_with fail
                  go_ret
                  exact ⟨by rw [HV.out, if_neg (by have := HK.out; have := C3.out; have := C4.out; have := C2.out; omega), if_neg (by have := HK.out; have := C3.out; have := C4.out; have := C2.out; omega), if_neg (by have := HK.out; have := C3.out; have := C4.out; have := C2.out; omega)]; rfl, HB5.out⟩
        · rw [hk] at k0
          have HK := Sec.mk hk
          clear hk
          by_cases c2 : m.n < 0
          · 
            have C2 := Sec.mk c2
            have d2 : decide (m.n < 0) = true := decide_eq_true c2
            clear c2
            as_aux_lemma =>
              go_wp2_with fail
              go_ret
              exact ⟨by rw [HV.out, if_neg (by have := HK.out; have := C2.out; omega), if_pos (by have := HK.out; have := C2.out; omega)]; rfl, HB5.out⟩
          · 
            have C2 := Sec.mk c2
            have d2 : decide (m.n < 0) = false := decide_eq_false c2
            clear c2
            as_aux_lemma =>
              go_upto_region 14 with (fail)
              have hsn2 := hsn.out
              go_wp2_with (refine wpList_load_list rfl 28 (.tmp 106) rfl w.heap.size 2 rfl _ hsn2 ?_)
              refine (check_any m.snap v0 v1 v2 _ H5.out).mono ?_
              rintro e w6 ⟨rfl, hb6⟩
              have hb7 := HB5.out.trans (hb6.mono HB5.out.size)
              have hz : checkMs m = checkSn m.snap := by rw [HV.out, if_neg (by have := HK.out; have := C2.out; omega), if_neg (by have := HK.out; have := C2.out; omega), if_pos HK.out]
              have HZ := Sec.mk hz
              clear hz
              generalize checkSn m.snap = z at HZ ⊢
              go_wp2_with fail
              go_ret
              exact ⟨by rw [HZ.out]; rfl, hb7⟩
        · rw [hk] at k0
          have HK := Sec.mk hk
          clear hk
          by_cases c2 : m.n < 0
          · 
            have C2 := Sec.mk c2
            have d2 : decide (m.n < 0) = true := decide_eq_true c2
            clear c2
            as_aux_lemma =>
              go_wp2_with fail
              go_ret
              exact ⟨by rw [HV.out, if_neg (by have := HK.out; have := C2.out; omega), if_pos (by have := HK.out; have := C2.out; omega)]; rfl, HB5.out⟩
          · 
            have C2 := Sec.mk c2
            have d2 : decide (m.n < 0) = false := decide_eq_false c2
            clear c2
            as_aux_lemma =>
              go_wp2_with fail
              go_ret
              exact ⟨by rw [HV.out, if_neg (by have := HK.out; have := C2.out; omega), if_neg (by have := HK.out; have := C2.out; omega), if_neg (by have := HK.out; have := C2.out; omega)]; rfl, HB5.out⟩
        · rw [hk] at k0
          have HK := Sec.mk hk
          clear hk
          by_cases c2 : m.n < 0
          · 
            have C2 := Sec.mk c2
            have d2 : decide (m.n < 0) = true := decide_eq_true c2
            clear c2
            as_aux_lemma =>
              go_wp2_with fail
              go_ret
              exact ⟨by rw [HV.out, if_neg (by have := HK.out; have := C2.out; omega), if_pos (by have := HK.out; have := C2.out; omega)]; rfl, HB5.out⟩
          · 
            have C2 := Sec.mk c2
            have d2 : decide (m.n < 0) = false := decide_eq_false c2
            clear c2
            by_cases c5 : m.why < 1
            · 
              have C5 := Sec.mk c5
              have d5 : decide (m.why < 1) = true := decide_eq_true c5
              clear c5
              as_aux_lemma =>
                go_wp2_with fail
                go_ret
                exact ⟨by rw [HV.out, if_neg (by have := HK.out; have := C2.out; have := C5.out; omega), if_pos (by have := HK.out; have := C2.out; have := C5.out; omega)]; rfl, HB5.out⟩
            · 
              have C5 := Sec.mk c5
              have d5 : decide (m.why < 1) = false := decide_eq_false c5
              clear c5
              by_cases c6 : 23 < m.why
              · 
                have C6 := Sec.mk c6
                have d6 : decide (23 < m.why) = true := decide_eq_true c6
                clear c6
                as_aux_lemma =>
                  go_wp2_with fail
                  go_ret
                  exact ⟨by rw [HV.out, if_neg (by have := HK.out; have := C2.out; have := C5.out; have := C6.out; omega), if_pos (by have := HK.out; have := C2.out; have := C5.out; have := C6.out; omega)]; rfl, HB5.out⟩
              · 
                have C6 := Sec.mk c6
                have d6 : decide (23 < m.why) = false := decide_eq_false c6
                clear c6
                as_aux_lemma =>
                  go_wp2_with fail
                  go_ret
                  exact ⟨by rw [HV.out, if_neg (by have := HK.out; have := C2.out; have := C5.out; have := C6.out; omega), if_neg (by have := HK.out; have := C2.out; have := C5.out; have := C6.out; omega), if_neg (by have := HK.out; have := C2.out; have := C5.out; have := C6.out; omega)]; rfl, HB5.out⟩
        · rw [hk] at k0
          have HK := Sec.mk hk
          clear hk
          by_cases c2 : m.n < 0
          · 
            have C2 := Sec.mk c2
            have d2 : decide (m.n < 0) = true := decide_eq_true c2
            clear c2
            as_aux_lemma =>
              go_wp2_with fail
              go_ret
              exact ⟨by rw [HV.out, if_neg (by have := HK.out; have := C2.out; omega), if_pos (by have := HK.out; have := C2.out; omega)]; rfl, HB5.out⟩
          · 
            have C2 := Sec.mk c2
            have d2 : decide (m.n < 0) = false := decide_eq_false c2
            clear c2
            as_aux_lemma =>
              go_wp2_with fail
              go_ret
              exact ⟨by rw [HV.out, if_neg (by have := HK.out; have := C2.out; omega), if_neg (by have := HK.out; have := C2.out; omega), if_neg (by have := HK.out; have := C2.out; omega)]; rfl, HB5.out⟩
    rename_i J K' hJ hMet
    obtain ⟨D, hD⟩ : ∃ D, D = W2.drew := ⟨_, rfl⟩
    have hMd : Row W2.drew w.heap.size 31 (msL m v0 v1 v2).toArray := hM2
    have hFd : Row W2.drew F 53 (hasL r1 r2 r3 r4).toArray := hF2
    have hbd : Below w.heap.size w W2.drew := hb2.drew
    rw [← hD] at hMd hFd hbd
    refine wp_region_held_drew (S := Below D.heap.size D) (by kernel_rfl) (by rw [← hD]; exact Below.refl _ _) (fun hS => ?_)
    rw [← hD] at hS ⊢
    clear hD hM2 hF2 hb2 W2
    have RM := Sec.mk (fun w' (h : Below D.heap.size D w') => hMd.below h hMd.lt)
    have RF := Sec.mk (fun w' (h : Below D.heap.size D w') => hFd.below h hFd.lt)
    have CM := Sec.mk (fun w' (h : Below D.heap.size D w') => ms_cells (hMd.below h hMd.lt) hs)
    refine wpAnyH_take (i := 0) (v := .pointer (some ⟨w.heap.size, 1, none⟩)) rfl (by kernel_rfl) (by kernel_rfl) (by kernel_rfl) (fun _ _ _ h => h) (Or.inl ⟨rfl, fun w' h => by go_simp; try rfl⟩) hS ?_
    go_simp
    refine wpAnyH_take (i := 1) (v := .string m.data) rfl (by kernel_rfl) (by kernel_rfl) (by kernel_rfl) (fun _ _ _ h => h) (Or.inl ⟨rfl, fun w' h => by have c := (CM.out w' h).2.1; go_simp; try rfl⟩) hS ?_
    go_simp
    refine wpAnyH_take (i := 2) (v := .bool d) rfl (by kernel_rfl) (by kernel_rfl) (by kernel_rfl) (fun _ _ _ h => h) (Or.inl ⟨rfl, fun w' h => by have e := HD.out; go_simp; try first | rfl | (rw [e]; done) | (rw [e]; rfl) | (simp [e]; done)⟩) hS ?_
    go_simp
    refine wpAnyH_take (i := 3) (v := .bool d) rfl (by kernel_rfl) (by kernel_rfl) (by kernel_rfl) (fun _ _ _ h => h) (Or.inl ⟨rfl, fun w' h => by go_simp; try rfl⟩) hS ?_
    go_simp
    refine wpAnyH_take (i := 4) (v := bif d then .pointer (some ⟨F, 0, none⟩) else undef) rfl (by kernel_rfl) (by kernel_rfl) (by kernel_rfl) (fun _ _ _ h => h) (by cases d <;> first | exact Or.inr ⟨rfl, rfl⟩ | exact Or.inl ⟨rfl, fun w' h => by  go_simp; try rfl⟩) hS ?_
    go_simp
    refine wpAnyH_take (i := 5) (v := bif d then .bool r1 else undef) rfl (by kernel_rfl) (by kernel_rfl) (by kernel_rfl) (fun _ _ _ h => h) (by cases d <;> first | exact Or.inr ⟨rfl, rfl⟩ | exact Or.inl ⟨rfl, fun w' h => by have c : w'.cell? ⟨F, 0, none⟩ = some (.bool r1) := (RF.out w' h).at_ 0; go_simp; try rfl⟩) hS ?_
    go_simp
    refine wpAnyH_take (i := 6) (v := .bool (d && r1)) rfl (by kernel_rfl) (by kernel_rfl) (by kernel_rfl) (fun _ _ _ h => h) (by cases d <;> exact Or.inl ⟨rfl, fun w' h => by go_simp; try rfl⟩) hS ?_
    go_simp
    refine wpAnyH_take (i := 7) (v := .pointer (some ⟨w.heap.size, 2, none⟩)) rfl (by kernel_rfl) (by kernel_rfl) (by kernel_rfl) (fun _ _ _ h => h) (Or.inl ⟨rfl, fun w' h => by go_simp; try rfl⟩) hS ?_
    go_simp
    refine wpAnyH_take (i := 8) (v := .agg (snL m.snap v0 v1 v2).toArray) rfl (by kernel_rfl) (by kernel_rfl) (by kernel_rfl) (fun _ _ _ h => h) (yi_load_list rfl 28 (.tmp 21) rfl w.heap.size 2 rfl _ (fun w' h => ms_snap (RM.out w' h) hs)) hS ?_
    go_simp
    refine wpAnyH_take (i := 15) (v := .pointer (some ⟨w.heap.size, 43, none⟩)) rfl (by kernel_rfl) (by kernel_rfl) (by kernel_rfl) (fun _ _ _ h => h) (Or.inl ⟨rfl, fun w' h => by go_simp; try rfl⟩) hS ?_
    go_simp
    refine wpAnyH_take (i := 16) (v := .int .i64 m.n) rfl (by kernel_rfl) (by kernel_rfl) (by kernel_rfl) (fun _ _ _ h => h) (Or.inl ⟨rfl, fun w' h => by have c := (CM.out w' h).2.2.1; go_simp; try rfl⟩) hS ?_
    go_simp
    refine wpAnyH_take (i := 17) (v := .bool nn) rfl (by kernel_rfl) (by kernel_rfl) (by kernel_rfl) (fun _ _ _ h => h) (Or.inl ⟨rfl, fun w' h => by have e := HN.out; go_simp; try first | rfl | (rw [e]; done) | (rw [e]; rfl) | (simp [e]; done)⟩) hS ?_
    go_simp
    refine wpAnyH_take (i := 22) (v := .pointer (some ⟨w.heap.size, 44, none⟩)) rfl (by kernel_rfl) (by kernel_rfl) (by kernel_rfl) (fun _ _ _ h => h) (Or.inl ⟨rfl, fun w' h => by go_simp; try rfl⟩) hS ?_
    go_simp
    refine wpAnyH_take (i := 23) (v := .int .i64 m.why) rfl (by kernel_rfl) (by kernel_rfl) (by kernel_rfl) (fun _ _ _ h => h) (Or.inl ⟨rfl, fun w' h => by have c := (CM.out w' h).2.2.2; go_simp; try rfl⟩) hS ?_
    go_simp
    refine wpAnyH_take (i := 24) (v := .bool yy) rfl (by kernel_rfl) (by kernel_rfl) (by kernel_rfl) (fun _ _ _ h => h) (Or.inl ⟨rfl, fun w' h => by have e := HY.out; go_simp; try first | rfl | (rw [e]; done) | (rw [e]; rfl) | (simp [e]; done)⟩) hS ?_
    go_simp
    refine wpAnyH_ready (rs := [9, 30]) (by kernel_rfl) (by simp) (AllReadyH.cons (o := _) rfl (fun K hK => ?_) (AllReadyH.cons (o := _) rfl (fun K hK => ?_) AllReadyH.nil))
    · go_simp
      refine (HE.out _ hbd).mono ?_
      rintro e w3 ⟨rfl, hb3⟩
      refine hK.out _ _ (hS.trans (hb3.mono hS.size)) (fun hS => ?_)
      clear hK K hb3
      rw [← HM.out]
      go_simp
      refine wpAnyH_take (i := 10) (v := .bool !em) rfl (by kernel_rfl) (by kernel_rfl) (by kernel_rfl) (fun _ _ _ h => h) (Or.inl ⟨rfl, fun w' h => by go_simp; try rfl⟩) hS ?_
      go_simp
      refine wpAnyH_take (i := 11) (v := .bool !em) rfl (by kernel_rfl) (by kernel_rfl) (by kernel_rfl) (fun _ _ _ h => h) (Or.inl ⟨rfl, fun w' h => by go_simp; try rfl⟩) hS ?_
      go_simp
      refine wpAnyH_take (i := 12) (v := bif !em then .pointer (some ⟨F, 1, none⟩) else undef) rfl (by kernel_rfl) (by kernel_rfl) (by kernel_rfl) (fun _ _ _ h => h) (by cases em <;> first | exact Or.inr ⟨rfl, rfl⟩ | exact Or.inl ⟨rfl, fun w' h => by  go_simp; try rfl⟩) hS ?_
      go_simp
      refine wpAnyH_take (i := 13) (v := bif !em then .bool r2 else undef) rfl (by kernel_rfl) (by kernel_rfl) (by kernel_rfl) (fun _ _ _ h => h) (by cases em <;> first | exact Or.inr ⟨rfl, rfl⟩ | exact Or.inl ⟨rfl, fun w' h => by have c : w'.cell? ⟨F, 1, none⟩ = some (.bool r2) := (RF.out w' h).at_ 1; go_simp; try rfl⟩) hS ?_
      go_simp
      refine wpAnyH_take (i := 14) (v := .bool (!em && r2)) rfl (by kernel_rfl) (by kernel_rfl) (by kernel_rfl) (fun _ _ _ h => h) (by cases em <;> exact Or.inl ⟨rfl, fun w' h => by go_simp; try rfl⟩) hS ?_
      go_simp
      refine wpAnyH_take (i := 18) (v := .bool nn) rfl (by kernel_rfl) (by kernel_rfl) (by kernel_rfl) (fun _ _ _ h => h) (Or.inl ⟨rfl, fun w' h => by go_simp; try rfl⟩) hS ?_
      go_simp
      refine wpAnyH_take (i := 19) (v := bif nn then .pointer (some ⟨F, 2, none⟩) else undef) rfl (by kernel_rfl) (by kernel_rfl) (by kernel_rfl) (fun _ _ _ h => h) (by cases nn <;> first | exact Or.inr ⟨rfl, rfl⟩ | exact Or.inl ⟨rfl, fun w' h => by  go_simp; try rfl⟩) hS ?_
      go_simp
      refine wpAnyH_take (i := 20) (v := bif nn then .bool r3 else undef) rfl (by kernel_rfl) (by kernel_rfl) (by kernel_rfl) (fun _ _ _ h => h) (by cases nn <;> first | exact Or.inr ⟨rfl, rfl⟩ | exact Or.inl ⟨rfl, fun w' h => by have c : w'.cell? ⟨F, 2, none⟩ = some (.bool r3) := (RF.out w' h).at_ 2; go_simp; try rfl⟩) hS ?_
      go_simp
      refine wpAnyH_take (i := 21) (v := .bool (nn && r3)) rfl (by kernel_rfl) (by kernel_rfl) (by kernel_rfl) (fun _ _ _ h => h) (by cases nn <;> exact Or.inl ⟨rfl, fun w' h => by go_simp; try rfl⟩) hS ?_
      go_simp
      refine wpAnyH_take (i := 25) (v := .bool yy) rfl (by kernel_rfl) (by kernel_rfl) (by kernel_rfl) (fun _ _ _ h => h) (Or.inl ⟨rfl, fun w' h => by go_simp; try rfl⟩) hS ?_
      go_simp
      refine wpAnyH_take (i := 26) (v := bif yy then .pointer (some ⟨F, 3, none⟩) else undef) rfl (by kernel_rfl) (by kernel_rfl) (by kernel_rfl) (fun _ _ _ h => h) (by cases yy <;> first | exact Or.inr ⟨rfl, rfl⟩ | exact Or.inl ⟨rfl, fun w' h => by  go_simp; try rfl⟩) hS ?_
      go_simp
      refine wpAnyH_take (i := 27) (v := bif yy then .bool r4 else undef) rfl (by kernel_rfl) (by kernel_rfl) (by kernel_rfl) (fun _ _ _ h => h) (by cases yy <;> first | exact Or.inr ⟨rfl, rfl⟩ | exact Or.inl ⟨rfl, fun w' h => by have c : w'.cell? ⟨F, 3, none⟩ = some (.bool r4) := (RF.out w' h).at_ 3; go_simp; try rfl⟩) hS ?_
      go_simp
      refine wpAnyH_take (i := 28) (v := .bool (yy && r4)) rfl (by kernel_rfl) (by kernel_rfl) (by kernel_rfl) (fun _ _ _ h => h) (by cases yy <;> exact Or.inl ⟨rfl, fun w' h => by go_simp; try rfl⟩) hS ?_
      go_simp
      refine wpAnyH_take (i := 29) (v := .agg (hasL (d && r1) (!em && r2) (nn && r3) (yy && r4)).toArray) rfl (by kernel_rfl) (by kernel_rfl) (by kernel_rfl) (fun _ _ _ h => h) (Or.inl ⟨rfl, fun w' h => by go_simp; try rfl⟩) hS ?_
      go_simp
      refine wpAnyH_ready (rs := [30]) (by kernel_rfl) (by simp) (AllReadyH.cons (o := _) rfl (fun K hK => ?_) AllReadyH.nil)
      go_simp
      have hG3 : Row (w3.alloc (.cells #[.bool false, .bool false, .bool false, .bool false] 53)) w3.heap.size 53 #[.bool false, .bool false, .bool false, .bool false] := Row.new w3 _ 53
      have hGs := hS.size
      refine hK.out _ _ (hS.alloc hS.size _) (fun hS => ?_)
      clear hK K
      go_simp
      refine wpAnyH_ready (rs := [31]) (by kernel_rfl) (by simp) (AllReadyH.cons (o := _) rfl (fun K hK => ?_) AllReadyH.nil)
      refine wp_store_row 53 (.tmp 5) (.tmp 43) rfl w3.heap.size (hasL (d && r1) (!em && r2) (nn && r3) (yy && r4)).toArray rfl rfl 53 _ hG3 (i53 _ _ _ _) rfl (hasL_all _ _ _ _) ?_
      refine hK.out _ _ (below_row hS hGs _) (fun hS => ?_)
      clear hK K
      go_simp
      refine wpAnyH_done (by kernel_rfl) ?_ _
      refine hMet _ _ (Met.intro (hJ _ _ ?_))
      (repeat apply Exists.intro)
      refine ⟨?_, rfl⟩
      exact ⟨w3.heap.size, rfl, hG3.row, RM.out _ hS, hbd.trans (hS.mono hbd.size)⟩
    · go_simp
      refine hK.out _ _ ((Below.refl _ _).alloc (Nat.le_refl _) _) (fun hS => ?_)
      clear hK K
      have hG : Row (D.alloc (.cells #[.bool false, .bool false, .bool false, .bool false] 53)) D.heap.size 53 #[.bool false, .bool false, .bool false, .bool false] := Row.new D _ 53
      have hbA := hbd.alloc hbd.size (.cells #[.bool false, .bool false, .bool false, .bool false] 53)
      refine wpAnyH_ready (rs := [9]) (by kernel_rfl) (by simp) (AllReadyH.cons (o := _) rfl (fun K hK => ?_) AllReadyH.nil)
      go_simp
      refine (HE.out _ hbA).mono ?_
      rintro e w3 ⟨rfl, hb3⟩
      have hG3 := hG.below hb3 hG.lt
      refine hK.out _ _ (hS.trans (hb3.mono hS.size)) (fun hS => ?_)
      clear hK K hb3 hG hbA
      rw [← HM.out]
      go_simp
      refine wpAnyH_take (i := 10) (v := .bool !em) rfl (by kernel_rfl) (by kernel_rfl) (by kernel_rfl) (fun _ _ _ h => h) (Or.inl ⟨rfl, fun w' h => by go_simp; try rfl⟩) hS ?_
      go_simp
      refine wpAnyH_take (i := 11) (v := .bool !em) rfl (by kernel_rfl) (by kernel_rfl) (by kernel_rfl) (fun _ _ _ h => h) (Or.inl ⟨rfl, fun w' h => by go_simp; try rfl⟩) hS ?_
      go_simp
      refine wpAnyH_take (i := 12) (v := bif !em then .pointer (some ⟨F, 1, none⟩) else undef) rfl (by kernel_rfl) (by kernel_rfl) (by kernel_rfl) (fun _ _ _ h => h) (by cases em <;> first | exact Or.inr ⟨rfl, rfl⟩ | exact Or.inl ⟨rfl, fun w' h => by  go_simp; try rfl⟩) hS ?_
      go_simp
      refine wpAnyH_take (i := 13) (v := bif !em then .bool r2 else undef) rfl (by kernel_rfl) (by kernel_rfl) (by kernel_rfl) (fun _ _ _ h => h) (by cases em <;> first | exact Or.inr ⟨rfl, rfl⟩ | exact Or.inl ⟨rfl, fun w' h => by have c : w'.cell? ⟨F, 1, none⟩ = some (.bool r2) := (RF.out w' h).at_ 1; go_simp; try rfl⟩) hS ?_
      go_simp
      refine wpAnyH_take (i := 14) (v := .bool (!em && r2)) rfl (by kernel_rfl) (by kernel_rfl) (by kernel_rfl) (fun _ _ _ h => h) (by cases em <;> exact Or.inl ⟨rfl, fun w' h => by go_simp; try rfl⟩) hS ?_
      go_simp
      refine wpAnyH_take (i := 18) (v := .bool nn) rfl (by kernel_rfl) (by kernel_rfl) (by kernel_rfl) (fun _ _ _ h => h) (Or.inl ⟨rfl, fun w' h => by go_simp; try rfl⟩) hS ?_
      go_simp
      refine wpAnyH_take (i := 19) (v := bif nn then .pointer (some ⟨F, 2, none⟩) else undef) rfl (by kernel_rfl) (by kernel_rfl) (by kernel_rfl) (fun _ _ _ h => h) (by cases nn <;> first | exact Or.inr ⟨rfl, rfl⟩ | exact Or.inl ⟨rfl, fun w' h => by  go_simp; try rfl⟩) hS ?_
      go_simp
      refine wpAnyH_take (i := 20) (v := bif nn then .bool r3 else undef) rfl (by kernel_rfl) (by kernel_rfl) (by kernel_rfl) (fun _ _ _ h => h) (by cases nn <;> first | exact Or.inr ⟨rfl, rfl⟩ | exact Or.inl ⟨rfl, fun w' h => by have c : w'.cell? ⟨F, 2, none⟩ = some (.bool r3) := (RF.out w' h).at_ 2; go_simp; try rfl⟩) hS ?_
      go_simp
      refine wpAnyH_take (i := 21) (v := .bool (nn && r3)) rfl (by kernel_rfl) (by kernel_rfl) (by kernel_rfl) (fun _ _ _ h => h) (by cases nn <;> exact Or.inl ⟨rfl, fun w' h => by go_simp; try rfl⟩) hS ?_
      go_simp
      refine wpAnyH_take (i := 25) (v := .bool yy) rfl (by kernel_rfl) (by kernel_rfl) (by kernel_rfl) (fun _ _ _ h => h) (Or.inl ⟨rfl, fun w' h => by go_simp; try rfl⟩) hS ?_
      go_simp
      refine wpAnyH_take (i := 26) (v := bif yy then .pointer (some ⟨F, 3, none⟩) else undef) rfl (by kernel_rfl) (by kernel_rfl) (by kernel_rfl) (fun _ _ _ h => h) (by cases yy <;> first | exact Or.inr ⟨rfl, rfl⟩ | exact Or.inl ⟨rfl, fun w' h => by  go_simp; try rfl⟩) hS ?_
      go_simp
      refine wpAnyH_take (i := 27) (v := bif yy then .bool r4 else undef) rfl (by kernel_rfl) (by kernel_rfl) (by kernel_rfl) (fun _ _ _ h => h) (by cases yy <;> first | exact Or.inr ⟨rfl, rfl⟩ | exact Or.inl ⟨rfl, fun w' h => by have c : w'.cell? ⟨F, 3, none⟩ = some (.bool r4) := (RF.out w' h).at_ 3; go_simp; try rfl⟩) hS ?_
      go_simp
      refine wpAnyH_take (i := 28) (v := .bool (yy && r4)) rfl (by kernel_rfl) (by kernel_rfl) (by kernel_rfl) (fun _ _ _ h => h) (by cases yy <;> exact Or.inl ⟨rfl, fun w' h => by go_simp; try rfl⟩) hS ?_
      go_simp
      refine wpAnyH_take (i := 29) (v := .agg (hasL (d && r1) (!em && r2) (nn && r3) (yy && r4)).toArray) rfl (by kernel_rfl) (by kernel_rfl) (by kernel_rfl) (fun _ _ _ h => h) (Or.inl ⟨rfl, fun w' h => by go_simp; try rfl⟩) hS ?_
      go_simp
      have hGs := Nat.le_refl D.heap.size
      refine wpAnyH_ready (rs := [31]) (by kernel_rfl) (by simp) (AllReadyH.cons (o := _) rfl (fun K hK => ?_) AllReadyH.nil)
      refine wp_store_row 53 (.tmp 5) (.tmp 43) rfl D.heap.size (hasL (d && r1) (!em && r2) (nn && r3) (yy && r4)).toArray rfl rfl 53 _ hG3 (i53 _ _ _ _) rfl (hasL_all _ _ _ _) ?_
      refine hK.out _ _ (below_row hS hGs _) (fun hS => ?_)
      clear hK K
      go_simp
      refine wpAnyH_done (by kernel_rfl) ?_ _
      refine hMet _ _ (Met.intro (hJ _ _ ?_))
      (repeat apply Exists.intro)
      refine ⟨?_, rfl⟩
      exact ⟨D.heap.size, rfl, hG3.row, RM.out _ hS, hbd.trans (hS.mono hbd.size)⟩

end Go.Proofs.YtokcmaehojljdaaDoor
