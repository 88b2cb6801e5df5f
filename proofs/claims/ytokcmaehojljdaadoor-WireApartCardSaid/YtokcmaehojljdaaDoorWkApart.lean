/- The walk of WireApart. -/
import Derived.Test.YtokcmaehojljdaaDoorPureApart
namespace Go.Proofs.YtokcmaehojljdaaDoor
open Go.RowKit Go.Shelf Go.Proofs.YtokcmaehojljdaaDoorW.PrintWords Go.Proofs.YtokcmaehojljdaaDoorW.PrintLast Go.Proofs.YtokcmaehojljdaaDoorW.PrintMore

set_option maxHeartbeats 8000000 in
set_option maxRecDepth 100000 in
theorem apart_any (m n : Ms) (v0 v1 v2 u0 u1 u2 : Value) (w : World) (hm : MsOk w m v0 v1 v2) (hn : MsOk w n u0 u1 u2) (hl : Laid w) :
    Calls Tryd.prog 3 #[.agg (msL m v0 v1 v2).toArray, .agg (msL n u0 u1 u2).toArray] w fun e w' => e = .returned (.bool true) ∧ Below w.heap.size w w' := by
  have hsm := hm.snap.hs
  have hsn := hn.snap.hs
  have hra : Row ((w.alloc (.cells (msL m v0 v1 v2).toArray 31)).alloc (.cells (msL n u0 u1 u2).toArray 31)) w.heap.size 31 (msL m v0 v1 v2).toArray := (Row.new w _ 31).alloc _
  have hrb := Row.new1 w (.cells (msL m v0 v1 v2).toArray 31) (msL n u0 u1 u2).toArray 31
  have hb0 := ((Below.refl w.heap.size w).alloc (Nat.le_refl _) (.cells (msL m v0 v1 v2).toArray 31)).alloc (by rw [size_alloc]; omega) (.cells (msL n u0 u1 u2).toArray 31)
  have HX := Sec.mk (And.intro hm hn)
  clear hm hn
  have HAW := Sec.mk (fun w' (hb : Below w.heap.size w w') => awake_any w' (hl.below hb))
  go_enter Tryd.func3, Tryd.ntmps3
  go_upto_region 1 with (fail)
  refine wp_abs (fun W HW => ?_)
  rw [← HW.out] at hra hrb hb0
  clear HW
  have hlt2 : w.heap.size + 1 < W.heap.size := hrb.lt
  have hxa := ms_whole hra hsm
  go_cut [16] (fun v16 wc => (∃ r : Bool, v16 = .bool r) ∧ Row wc w.heap.size 31 (msL m v0 v1 v2).toArray ∧ Row wc (w.heap.size + 1) 31 (msL n u0 u1 u2).toArray ∧ Below w.heap.size w wc)
  case first =>
    go_wp2_with (refine wpList_load_list rfl 31 (.tmp 2) rfl w.heap.size 0 rfl _ hxa ?_)
    refine (great_any m v0 v1 v2 _ (HX.out.1.below hb0)).mono ?_
    rintro e w1 ⟨⟨r, rfl⟩, hb1⟩
    have hra1 := hra.below hb1 (by omega)
    have hrb1 := hrb.below hb1 hlt2
    replace hb1 := hb0.trans (hb1.mono hb0.size)
    clear hxa hra hrb hb0 hlt2
    have hxb := ms_whole hrb1 hsn
    by_cases hr : 0 < r
    · have hd : decide (0 < r) = true := decide_eq_true hr
      go_wp2_with fail
      go_meet
      exact ⟨⟨_, rfl⟩, hra1, hrb1, hb1⟩
    · have hd : decide (0 < r) = false := decide_eq_false hr
      go_wp2_with (refine wpList_load_list rfl 31 (.tmp 3) rfl (w.heap.size + 1) 0 rfl _ hxb ?_)
      refine (great_any n u0 u1 u2 _ (HX.out.2.below hb1)).mono ?_
      rintro e w2 ⟨⟨r2, rfl⟩, hb2⟩
      have hra2 := hra1.below hb2 hra1.lt
      have hrb2 := hrb1.below hb2 hrb1.lt
      replace hb2 := hb1.trans (hb2.mono hb1.size)
      go_wp2_with fail
      go_meet
      exact ⟨⟨_, rfl⟩, hra2, hrb2, hb2⟩
  case rest =>
    clear hxa hra hrb hb0 hlt2
    obtain ⟨⟨r, rfl⟩, hra, hrb, hb⟩ := hcut
    cases r with
    | true =>
      go_wp2_with fail
      refine (HAW.out _ hb).mono ?_
      rintro e w2 ⟨rfl, hb2⟩
      go_wp2_with fail
      go_ret
      exact ⟨rfl, hb.trans (hb2.mono hb.size)⟩
    | false =>
      have hxa := ms_whole hra hsm
      go_wp2_with (refine wpList_load_list rfl 31 (.tmp 2) rfl w.heap.size 0 rfl _ hxa ?_)
      refine (put_any m v0 v1 v2 _ (HX.out.1.below hb) (hl.below hb)).mono ?_
      rintro e w2 ⟨rfl, hb2⟩
      have hra2 := hra.below hb2 hra.lt
      have hrb2 := hrb.below hb2 hrb.lt
      replace hb2 := hb.trans (hb2.mono hb.size)
      clear hxa hra hrb hb
      have hxb := ms_whole hrb2 hsn
      go_wp2_with (refine wpList_load_list rfl 31 (.tmp 3) rfl (w.heap.size + 1) 0 rfl _ hxb ?_)
      refine (put_any n u0 u1 u2 _ (HX.out.2.below hb2) (hl.below hb2)).mono ?_
      rintro e w3 ⟨rfl, hb3⟩
      have hra3 := hra2.below hb3 hra2.lt
      have hrb3 := hrb2.below hb3 hrb2.lt
      replace hb3 := hb2.trans (hb3.mono hb2.size)
      clear hxb hra2 hrb2 hb2
      by_cases hcm : checkMs m = 0
      · rw [hcm]
        by_cases hcn : checkMs n = 0
        · rw [hcn]
          have hxa := ms_whole hra3 hsm
          have hxb := ms_whole hrb3 hsn
          obtain ⟨d, hiff, HD⟩ : ∃ d : Bool, ((putMs m).toList == (putMs n).toList) = d ∧ Sec (d = true ↔ m = n) := by
            refine ⟨_, rfl, ⟨?_⟩⟩
            rw [beq_iff_eq, toList_inj]
            exact ⟨putMs_inj m n HX.out.1.range HX.out.2.range hcm hcn, fun h => by rw [h]⟩
          have HS := Sec.mk (fun W hb => same_any m n v0 v1 v2 u0 u1 u2 W (HX.out.1.below hb) (HX.out.2.below hb))
          clear hcm hcn
          generalize putMs m = pm at hiff ⊢
          generalize putMs n = pn at hiff ⊢
          go_wp2_with (first
            | refine wpList_load_list rfl 31 (.tmp 2) rfl w.heap.size 0 rfl _ hxa ?_
            | refine wpList_load_list rfl 31 (.tmp 3) rfl (w.heap.size + 1) 0 rfl _ hxb ?_)
          refine (HS.out _ hb3).mono ?_
          rintro e w4 ⟨⟨r, rfl, hr⟩, hb4⟩
          replace hb4 := hb3.trans (hb4.mono hb3.size)
          have hrd : r = d := by
            have := hr.trans HD.out.symm
            exact Bool.eq_iff_iff.2 this
          subst hrd
          clear hr
          have hrr : (r == r) = true := beq_self_eq_true r
          go_wp2_with fail
          refine (HAW.out _ hb4).mono ?_
          rintro e w5 ⟨rfl, hb5⟩
          go_wp2_with fail
          go_ret
          exact ⟨rfl, hb4.trans (hb5.mono hb4.size)⟩
        · have hpn : putMs n = ⟨#[]⟩ := by rw [putMs, if_neg hcn]
          rw [hpn]
          generalize checkMs n = z at hcn ⊢
          have hz1 : (z != 0) = true := bne_iff_ne.2 hcn
          have hz2 : (z == 0) = false := beq_eq_false_iff_ne.2 hcn
          generalize putMs m = pm
          clear hcm hpn
          go_wp2_with fail
          refine (HAW.out _ hb3).mono ?_
          rintro e w5 ⟨rfl, hb5⟩
          go_wp2_with fail
          go_ret
          exact ⟨rfl, hb3.trans (hb5.mono hb3.size)⟩
      · have hpm : putMs m = ⟨#[]⟩ := by rw [putMs, if_neg hcm]
        rw [hpm]
        generalize checkMs m = z at hcm ⊢
        have hz1 : (z != 0) = true := bne_iff_ne.2 hcm
        have hz2 : (z == 0) = false := beq_eq_false_iff_ne.2 hcm
        clear hpm
        by_cases hcn : checkMs n = 0
        · rw [hcn]
          generalize putMs n = pn
          clear hcn
          go_wp2_with fail
          refine (HAW.out _ hb3).mono ?_
          rintro e w5 ⟨rfl, hb5⟩
          go_wp2_with fail
          go_ret
          exact ⟨rfl, hb3.trans (hb5.mono hb3.size)⟩
        · have hpn : putMs n = ⟨#[]⟩ := by rw [putMs, if_neg hcn]
          rw [hpn]
          generalize checkMs n = y at hcn ⊢
          have hy1 : (y != 0) = true := bne_iff_ne.2 hcn
          have hy2 : (y == 0) = false := beq_eq_false_iff_ne.2 hcn
          clear hpn
          go_wp2_with fail
          refine (HAW.out _ hb3).mono ?_
          rintro e w5 ⟨rfl, hb5⟩
          go_wp2_with fail
          go_ret
          exact ⟨rfl, hb3.trans (hb5.mono hb3.size)⟩
end Go.Proofs.YtokcmaehojljdaaDoor
