/- SameSnap and Same: their walks. -/
import Derived.Test.YtokcmaehojljdaaDoorAwake
namespace Go.Proofs.YtokcmaehojljdaaDoor
open Go.RowKit Go.Shelf Go.Proofs.YtokcmaehojljdaaDoorW.PrintWords Go.Proofs.YtokcmaehojljdaaDoorW.PrintLast Go.Proofs.YtokcmaehojljdaaDoorW.PrintMore

theorem sum_neq (w : World) (xs ys : List UInt8) (hx : xs.length = 32) (hy : ys.length = 32) : (binOp .neq 26 (.agg (Lib.byteCells xs).toArray) (.agg (Lib.byteCells ys).toArray)).run Tryd.prog w = .ok (.bool (xs != ys)) w := by
  have e1 : Lib.byteCells xs = xs.map Extern.Stop.cell := rfl
  have e2 : Lib.byteCells ys = ys.map Extern.Stop.cell := rfl
  rw [e1, e2, run_neq_struct, run_equalIn_bytes (P := Tryd.prog) w 9998 26 5 32 Tryd.underlying26 Tryd.underlying5 (fun w => by kernel_rfl) xs ys hx hy]
  rfl
theorem sn_list {w : World} {b : Nat} {s : Sn} {v : Nat → Value} (h : Row w b 28 (snL s (v 0) (v 1) (v 2)).toArray) (i : Nat) (hi : i < 3) : w.cell? ⟨b, 6 + i, none⟩ = some (v i) := by
  rw [h.at_ (6 + i)]
  have hc : i = 0 ∨ i = 1 ∨ i = 2 := by omega
  rcases hc with rfl | rfl | rfl <;> rfl
/-- Are all but the lists the same? -/
def flatSn (a b : Sn) : Prop := a.mach.toList = b.mach.toList ∧ a.n = b.n ∧ a.at_ = b.at_ ∧ a.clock = b.clock ∧ a.pages = b.pages ∧ a.blocks = b.blocks ∧ a.sum = b.sum
theorem sn_eq (a b : Sn) : a = b ↔ flatSn a b ∧ ∀ j, j < 3 → lst a j = lst b j := by
  constructor
  · rintro rfl
    exact ⟨⟨rfl, rfl, rfl, rfl, rfl, rfl, rfl⟩, fun _ _ => rfl⟩
  · rintro ⟨⟨h1, h2, h3, h4, h5, h6, h7⟩, hl⟩
    have g0 : a.l0 = b.l0 := hl 0 (by decide)
    have g1 : a.l1 = b.l1 := hl 1 (by decide)
    have g2 : a.l2 = b.l2 := hl 2 (by decide)
    have h1' := (toList_inj _ _).1 h1
    cases a; cases b
    simp only [Sn.mk.injEq] at *
    exact ⟨h1', h2, h3, h4, h5, h6, g0, g1, g2, h7⟩
set_option maxHeartbeats 8000000 in
set_option maxRecDepth 100000 in
theorem snap_any (a b : Sn) (v0 v1 v2 u0 u1 u2 : Value) (w : World) (ha : SnOk w a v0 v1 v2) (hb : SnOk w b u0 u1 u2) :
    Calls Tryd.prog 20 #[.agg (snL a v0 v1 v2).toArray, .agg (snL b u0 u1 u2).toArray] w fun e w' => (∃ r : Bool, e = .returned (.bool r) ∧ (r = true ↔ a = b)) ∧ Below w.heap.size w w' := by
  have hsa := ha.hs
  have hsb := hb.hs
  obtain ⟨A, c, rfl, rfl, rfl, hla⟩ := lists_at ha
  obtain ⟨B, d, rfl, rfl, rfl, hlb⟩ := lists_at hb
  have HLA := Sec.mk hla
  have HLB := Sec.mk hlb
  clear ha hb hla hlb
  have hra : Row ((w.alloc (.cells (snL a (.slice (A 0) (lst a 0).length (c 0)) (.slice (A 1) (lst a 1).length (c 1)) (.slice (A 2) (lst a 2).length (c 2))).toArray 28)).alloc (.cells (snL b (.slice (B 0) (lst b 0).length (d 0)) (.slice (B 1) (lst b 1).length (d 1)) (.slice (B 2) (lst b 2).length (d 2))).toArray 28)) w.heap.size 28 (snL a (.slice (A 0) (lst a 0).length (c 0)) (.slice (A 1) (lst a 1).length (c 1)) (.slice (A 2) (lst a 2).length (c 2))).toArray := (Row.new w _ 28).alloc _
  have hrb := Row.new1 w (.cells (snL a (.slice (A 0) (lst a 0).length (c 0)) (.slice (A 1) (lst a 1).length (c 1)) (.slice (A 2) (lst a 2).length (c 2))).toArray 28) (snL b (.slice (B 0) (lst b 0).length (d 0)) (.slice (B 1) (lst b 1).length (d 1)) (.slice (B 2) (lst b 2).length (d 2))).toArray 28
  have hb0 := ((Below.refl w.heap.size w).alloc (Nat.le_refl _) (.cells (snL a (.slice (A 0) (lst a 0).length (c 0)) (.slice (A 1) (lst a 1).length (c 1)) (.slice (A 2) (lst a 2).length (c 2))).toArray 28)).alloc (by rw [size_alloc]; omega) (.cells (snL b (.slice (B 0) (lst b 0).length (d 0)) (.slice (B 1) (lst b 1).length (d 1)) (.slice (B 2) (lst b 2).length (d 2))).toArray 28)
  go_enter Tryd.func20, Tryd.ntmps20
  go_upto_region 1 with (fail)
  refine wp_abs (fun W HW => ?_)
  rw [← HW.out] at hra hrb hb0
  clear HW
  go_cut [53] (fun v53 wc => (∃ r : Bool, v53 = .bool (!r) ∧ Sec (r = true ↔ flatSn a b)) ∧ Row wc w.heap.size 28 (snL a (.slice (A 0) (lst a 0).length (c 0)) (.slice (A 1) (lst a 1).length (c 1)) (.slice (A 2) (lst a 2).length (c 2))).toArray ∧ Row wc (w.heap.size + 1) 28 (snL b (.slice (B 0) (lst b 0).length (d 0)) (.slice (B 1) (lst b 1).length (d 1)) (.slice (B 2) (lst b 2).length (d 2))).toArray ∧ Below w.heap.size w wc)
  case first =>
    obtain ⟨k0, k1, k2, k3, k4, k5, -, -, -⟩ := sn_cells hra
    obtain ⟨l0, l1, l2, l3, l4, l5, -, -, -⟩ := sn_cells hrb
    by_cases e0 : a.mach.toList = b.mach.toList
    · by_cases e1 : a.n = b.n
      · by_cases e2 : a.at_ = b.at_
        · by_cases e3 : a.clock = b.clock
          · by_cases e4 : a.pages = b.pages
            · by_cases e5 : a.blocks = b.blocks
              · have hxa := sn_sum hra hsa
                have hxb := sn_sum hrb hsb
                have hne := Sec.mk (fun W => sum_neq W a.sum b.sum hsa hsb)
                have hiff : (a.sum == b.sum) = true ↔ flatSn a b := by
                  rw [beq_iff_eq]
                  exact ⟨fun e6 => ⟨e0, e1, e2, e3, e4, e5, e6⟩, fun h => h.2.2.2.2.2.2⟩
                have HI := Sec.mk hiff
                clear hiff
                have hnb : (a.sum != b.sum) = !(a.sum == b.sum) := rfl
                rw [hnb] at hne
                clear hnb
                generalize (a.sum == b.sum) = r at HI hne
                go_wp2_with (first
                  | refine wpList_load_list rfl 26 (.tmp 48) rfl w.heap.size 9 rfl _ hxa ?_
                  | refine wpList_load_list rfl 26 (.tmp 50) rfl (w.heap.size + 1) 9 rfl _ hxb ?_
                  | refine wpList_value (v := .bool (!r)) rfl (run_exec_neq W rfl rfl rfl (by kernel_rfl) (hne.out W)) ?_)
                go_meet
                exact ⟨⟨r, rfl, HI⟩, hra, hrb, hb0⟩
              · go_wp2_with fail
                go_meet
                exact ⟨⟨false, by simp, ⟨⟨fun h => absurd h (by decide), fun h => absurd h.2.2.2.2.2.1 e5⟩⟩⟩, hra, hrb, hb0⟩
            · go_wp2_with fail
              go_meet
              exact ⟨⟨false, by simp, ⟨⟨fun h => absurd h (by decide), fun h => absurd h.2.2.2.2.1 e4⟩⟩⟩, hra, hrb, hb0⟩
          · go_wp2_with fail
            go_meet
            exact ⟨⟨false, by simp, ⟨⟨fun h => absurd h (by decide), fun h => absurd h.2.2.2.1 e3⟩⟩⟩, hra, hrb, hb0⟩
        · go_wp2_with fail
          go_meet
          exact ⟨⟨false, by simp, ⟨⟨fun h => absurd h (by decide), fun h => absurd h.2.2.1 e2⟩⟩⟩, hra, hrb, hb0⟩
      · go_wp2_with fail
        go_meet
        exact ⟨⟨false, by simp, ⟨⟨fun h => absurd h (by decide), fun h => absurd h.2.1 e1⟩⟩⟩, hra, hrb, hb0⟩
    · go_wp2_with fail
      go_meet
      exact ⟨⟨false, by simp, ⟨⟨fun h => absurd h (by decide), fun h => absurd h.1 e0⟩⟩⟩, hra, hrb, hb0⟩
  case rest =>
    clear hra hrb hb0 hsa hsb
    obtain ⟨⟨r, rfl, HI⟩, hra, hrb, hb⟩ := hcut
    cases r with
    | false =>
      go_wp2_with fail
      go_ret
      exact ⟨⟨false, rfl, fun h => absurd h (by decide), fun h => absurd (HI.out.2 ((sn_eq a b).1 h).1) (by decide)⟩, hb⟩
    | true =>
      have hfl := Sec.mk (HI.out.1 rfl)
      clear HI
      go_wp2_with fail
      go_loopw [5] (fun v5 wr => ∃ i : Nat, i ≤ 3 ∧ v5 = .int .i64 i ∧ Row wr w.heap.size 28 (snL a (.slice (A 0) (lst a 0).length (c 0)) (.slice (A 1) (lst a 1).length (c 1)) (.slice (A 2) (lst a 2).length (c 2))).toArray ∧ Row wr (w.heap.size + 1) 28 (snL b (.slice (B 0) (lst b 0).length (d 0)) (.slice (B 1) (lst b 1).length (d 1)) (.slice (B 2) (lst b 2).length (d 2))).toArray ∧ Below w.heap.size w wr ∧ Sec (∀ j, j < i → lst a j = lst b j)) (fun v5 _ => 3 - (intOf v5).toNat)
      case atStart => exact ⟨0, by omega, rfl, hra, hrb, hb, ⟨fun j hj => absurd hj (Nat.not_lt_zero _)⟩⟩
      case round =>
        clear hra hrb hb
        obtain ⟨i, hi, rfl, hra, hrb, hb, hgood⟩ := hrel
        by_cases hlt : i < 3
        · have hd : decide ((i : Int) < 3) = true := decide_eq_true (by omega)
          have ka := sn_list (v := fun i => .slice (A i) (lst a i).length (c i)) hra i hlt
          have kb := sn_list (v := fun i => .slice (B i) (lst b i).length (d i)) hrb i hlt
          obtain ⟨-, hCa, hna, -⟩ := HLA.out i hlt
          obtain ⟨-, hCb, hnb, -⟩ := HLB.out i hlt
          replace hCa := Kd.C_below hCa hb
          replace hCb := Kd.C_below hCb hb
          obtain ⟨w0, hw0⟩ : ∃ w0, w0 = wr := ⟨_, rfl⟩
          subst hw0
          have HRA := Sec.mk hra
          have HRB := Sec.mk hrb
          clear hra hrb
          generalize hla : lst a i = la at ka hCa hna
          generalize hlb : lst b i = lb at kb hCb hnb
          have HL1 := Sec.mk hla
          have HL2 := Sec.mk hlb
          clear hla hlb
          generalize A i = Ai at ka hCa
          generalize B i = Bi at kb hCb
          have p1 : (0 ≤ (i : Int)) = True := eq_true (by omega)
          have q1 : ((i : Int) < 3) = True := eq_true (by omega)
          have hal : Tryd.prog.arrayLen 24 = 3 := by kernel_rfl
          go_wp2_with fail
          go_quiet (fail)
          replace ka : (w0.drewN nq).cell? ⟨w.heap.size, 6 + i, none⟩ = some (.slice Ai la.length (c i)) := ka
          replace kb : (w0.drewN nq).cell? ⟨w.heap.size + 1, 6 + i, none⟩ = some (.slice Bi lb.length (d i)) := kb
          replace hCa := Kd.C_drewN hCa nq
          replace hCb := Kd.C_drewN hCb nq
          replace hb := below_drewN' hb nq
          replace HRA := Sec.mk (HRA.out.drewN nq)
          replace HRB := Sec.mk (HRB.out.drewN nq)
          generalize w0.drewN nq = w2 at *
          have hno : la ≠ lb → ¬ (a = b) := fun h e => h (by rw [← HL1.out, ← HL2.out, e])
          have HNO := Sec.mk hno
          clear hno
          by_cases hlen : la.length = lb.length
          · have hl1 : ((la.length : Int) != lb.length) = false := by rw [hlen]; exact bne_self_eq_false _
            have hl2 : ((la.length : Int) == lb.length) = true := by rw [hlen]; exact beq_self_eq_true _
            go_wp2_with fail
            go_loopw [74] (fun v74 wr => ∃ k : Nat, k ≤ la.length ∧ v74 = .int .i64 k ∧ Below w2.heap.size w2 wr ∧ Sec (la.take k = lb.take k)) (fun v74 _ => la.length - (intOf v74).toNat)
            case atStart => exact ⟨0, by omega, rfl, Below.refl _ _, ⟨by simp⟩⟩
            case round =>
              clear hl1 hl2
              obtain ⟨k, hk, rfl, hbk, htk⟩ := hrel
              have hab := hb.trans (hbk.mono hb.size)
              by_cases hkl : k < la.length
              · have hdk : decide ((k : Int) < la.length) = true := decide_eq_true (by omega)
                have ka2 : wr.cell? ⟨w.heap.size, 6 + i, none⟩ = some (.slice Ai la.length (c i)) := (hbk.cell (cell_lt ka)).trans ka
                have kb2 : wr.cell? ⟨w.heap.size + 1, 6 + i, none⟩ = some (.slice Bi lb.length (d i)) := (hbk.cell (cell_lt kb)).trans kb
                obtain ⟨ad, e, hx⟩ := Kd.at_string (Kd.C_below hCa hbk) (k : Int) (by omega) (by omega)
                cases e
                obtain ⟨bd, e, hy⟩ := Kd.at_string (Kd.C_below hCb hbk) (k : Int) (by omega) (by omega)
                cases e
                obtain ⟨x, hxs⟩ : ∃ x, la[k]? = some x := ⟨_, List.getElem?_eq_getElem hkl⟩
                obtain ⟨y, hys⟩ : ∃ y, lb[k]? = some y := ⟨_, List.getElem?_eq_getElem (by omega)⟩
                have hx' : wr.cell? (ad.add k) = some (.string x) := by
                  have e2 : rdOf ByteArray.empty la (k : Int) = x := by simp [rdOf, List.getD_eq_getElem?_getD, hxs]
                  rw [e2] at hx; exact hx
                have hy' : wr.cell? (bd.add k) = some (.string y) := by
                  have e2 : rdOf ByteArray.empty lb (k : Int) = y := by simp [rdOf, List.getD_eq_getElem?_getD, hys]
                  rw [e2] at hy; exact hy
                clear hx hy
                have ht1 : la.take (k + 1) = la.take k ++ [x] := by rw [List.take_add_one, hxs]; rfl
                have ht2 : lb.take (k + 1) = lb.take k ++ [y] := by rw [List.take_add_one, hys]; rfl
                have HT := Sec.mk (And.intro ht1 ht2)
                have HXY := Sec.mk (And.intro hxs hys)
                clear ht1 ht2 hxs hys
                have p2 : (0 ≤ (k : Int)) = True := eq_true (by omega)
                have q2 : ((k : Int) < la.length) = True := eq_true (by omega)
                have q3 : ((k : Int) < lb.length) = True := eq_true (by omega)
                by_cases hxy : x.toList = y.toList
                · have hn1 : (x.toList != y.toList) = false := by rw [hxy]; exact bne_self_eq_false _
                  have hn2 : (x.toList == y.toList) = true := by rw [hxy]; exact beq_self_eq_true _
                  have HE := Sec.mk ((toList_inj _ _).1 hxy)
                  clear hxy
                  go_wp2_with fail
                  go_quiet (fail)
                  go_wp2_with fail
                  refine ⟨⟨k + 1, by omega, by go_num, below_drewN' hbk nq, ⟨by rw [HT.out.1, HT.out.2, htk.out, HE.out]⟩⟩, by simp [intOf]; omega⟩
                · have hn1 : (x.toList != y.toList) = true := bne_iff_ne.2 hxy
                  have hn2 : (x.toList == y.toList) = false := beq_eq_false_iff_ne.2 hxy
                  have hdiff : la ≠ lb := fun e => hxy (by
                    have h := HXY.out.1
                    rw [e, HXY.out.2] at h
                    rw [Option.some.inj h])
                  have HD := Sec.mk (HNO.out hdiff)
                  clear hxy hdiff
                  go_wp2_with fail
                  go_quiet (fail)
                  go_wp2_with fail
                  go_ret
                  exact ⟨⟨false, rfl, fun h => absurd h (by decide), fun h => absurd h HD.out⟩, below_drewN' hab _⟩
              · have hdk : decide ((k : Int) < la.length) = false := decide_eq_false (by omega)
                have heq : la = lb := by
                  have h := htk.out
                  rw [List.take_of_length_le (by omega), List.take_of_length_le (by omega)] at h
                  exact h
                have HEQ := Sec.mk heq
                clear heq
                go_wp2_with fail
                have hRa2 := HRA.out.below hbk HRA.out.lt
                have hRb2 := HRB.out.below hbk HRB.out.lt
                refine ⟨⟨i + 1, by omega, by go_num, hRa2, hRb2, hab, ⟨fun j hj => ?_⟩⟩, by simp [intOf]; omega⟩
                by_cases hji : j = i
                · rw [hji, HL1.out, HL2.out]; exact HEQ.out
                · exact hgood.out j (by omega)
          · have hl1 : ((la.length : Int) != lb.length) = true := bne_iff_ne.2 (by omega)
            have hl2 : ((la.length : Int) == lb.length) = false := beq_eq_false_iff_ne.2 (by omega)
            have HD := Sec.mk (HNO.out (fun e => hlen (by rw [e])))
            go_wp2_with fail
            go_ret
            exact ⟨⟨false, rfl, fun h => absurd h (by decide), fun h => absurd h HD.out⟩, hb⟩
        · have hd : decide ((i : Int) < 3) = false := decide_eq_false (by omega)
          obtain rfl : i = 3 := by omega
          go_wp2_with fail
          go_ret
          exact ⟨⟨true, rfl, fun _ => (sn_eq a b).2 ⟨hfl.out, hgood.out⟩, fun _ => rfl⟩, hb⟩
theorem ms_eq (m n : Ms) : m = n ↔ m.kind = n.kind ∧ m.data.toList = n.data.toList ∧ m.n = n.n ∧ m.why = n.why ∧ m.snap = n.snap := by
  constructor
  · rintro rfl; exact ⟨rfl, rfl, rfl, rfl, rfl⟩
  · rintro ⟨h1, h2, h3, h4, h5⟩
    have h2' := (toList_inj _ _).1 h2
    cases m; cases n
    simp only [Ms.mk.injEq] at *
    exact ⟨h1, h2', h5, h3, h4⟩
set_option maxHeartbeats 4000000 in
set_option maxRecDepth 100000 in
theorem same_any (m n : Ms) (v0 v1 v2 u0 u1 u2 : Value) (w : World) (hm : MsOk w m v0 v1 v2) (hn : MsOk w n u0 u1 u2) :
    Calls Tryd.prog 11 #[.agg (msL m v0 v1 v2).toArray, .agg (msL n u0 u1 u2).toArray] w fun e w' => (∃ r : Bool, e = .returned (.bool r) ∧ (r = true ↔ m = n)) ∧ Below w.heap.size w w' := by
  have hsm := hm.snap.hs
  have hsn := hn.snap.hs
  have hra : Row ((w.alloc (.cells (msL m v0 v1 v2).toArray 31)).alloc (.cells (msL n u0 u1 u2).toArray 31)) w.heap.size 31 (msL m v0 v1 v2).toArray := (Row.new w _ 31).alloc _
  have hrb := Row.new1 w (.cells (msL m v0 v1 v2).toArray 31) (msL n u0 u1 u2).toArray 31
  have hb0 := ((Below.refl w.heap.size w).alloc (Nat.le_refl _) (.cells (msL m v0 v1 v2).toArray 31)).alloc (by rw [size_alloc]; omega) (.cells (msL n u0 u1 u2).toArray 31)
  have HX := Sec.mk (And.intro hm hn)
  clear hm hn
  have hq := ms_eq m n
  go_enter Tryd.func11, Tryd.ntmps11
  go_upto_region 1 with (fail)
  refine wp_abs (fun W HW => ?_)
  rw [← HW.out] at hra hrb hb0
  clear HW
  obtain ⟨k0, k1, k2, k3⟩ := ms_cells hra hsm
  obtain ⟨l0, l1, l2, l3⟩ := ms_cells hrb hsn
  have HQ := Sec.mk hq
  clear hq
  by_cases e0 : m.kind = n.kind
  · by_cases e1 : m.data.toList = n.data.toList
    · by_cases e2 : m.n = n.n
      · by_cases e3 : m.why = n.why
        · have hx := ms_snap hra hsm
          have hy := ms_snap hrb hsn
          have HE := Sec.mk (And.intro e0 (And.intro e1 (And.intro e2 e3)))
          go_wp2_with (first
            | refine wpList_load_list rfl 28 (.tmp 32) rfl w.heap.size 2 rfl _ hx ?_
            | refine wpList_load_list rfl 28 (.tmp 34) rfl (w.heap.size + 1) 2 rfl _ hy ?_)
          refine (snap_any m.snap n.snap v0 v1 v2 u0 u1 u2 _ (HX.out.1.snap.below hb0) (HX.out.2.snap.below hb0)).mono ?_
          rintro e w2 ⟨⟨r, rfl, hr⟩, hb2⟩
          have HR := Sec.mk hr
          clear hr
          have hb3 := hb0.trans (hb2.mono hb0.size)
          go_wp2_with fail
          go_ret
          refine ⟨⟨r, rfl, ?_⟩, hb3⟩
          rw [HR.out, HQ.out]
          exact ⟨fun h => ⟨HE.out.1, HE.out.2.1, HE.out.2.2.1, HE.out.2.2.2, h⟩, fun h => h.2.2.2.2⟩
        · have HN := Sec.mk (fun h : m = n => e3 (HQ.out.1 h).2.2.2.1)
          go_wp2_with fail
          go_ret
          exact ⟨⟨false, by simp, fun h => absurd h (by decide), fun h => absurd h HN.out⟩, hb0⟩
      · have HN := Sec.mk (fun h : m = n => e2 (HQ.out.1 h).2.2.1)
        go_wp2_with fail
        go_ret
        exact ⟨⟨false, by simp, fun h => absurd h (by decide), fun h => absurd h HN.out⟩, hb0⟩
    · have HN := Sec.mk (fun h : m = n => e1 (HQ.out.1 h).2.1)
      go_wp2_with fail
      go_ret
      exact ⟨⟨false, by simp, fun h => absurd h (by decide), fun h => absurd h HN.out⟩, hb0⟩
  · have HN := Sec.mk (fun h : m = n => e0 (HQ.out.1 h).1)
    go_wp2_with fail
    go_ret
    exact ⟨⟨false, by simp, fun h => absurd h (by decide), fun h => absurd h HN.out⟩, hb0⟩
end Go.Proofs.YtokcmaehojljdaaDoor
