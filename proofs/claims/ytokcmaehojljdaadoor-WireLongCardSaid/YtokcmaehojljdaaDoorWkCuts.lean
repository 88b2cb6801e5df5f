/- The walk of WireCuts. -/
import Derived.Test.YtokcmaehojljdaaDoorGet0
import Derived.Test.YtokcmaehojljdaaDoorPureApart
namespace Go.Proofs.YtokcmaehojljdaaDoor
open Go.RowKit Go.Shelf Go.Proofs.YtokcmaehojljdaaDoorW.PrintWords Go.Proofs.YtokcmaehojljdaaDoorW.PrintLast Go.Proofs.YtokcmaehojljdaaDoorW.PrintMore

theorem putMs_size (m : Ms) {w : World} {v0 v1 v2 : Value} (h : MsOk w m v0 v1 v2) (hc : checkMs m = 0) : (putMs m).size ≤ 3000000 ∧ 0 < (putMs m).size := by
  have hlen := load_len m hc h.snap.hs h.snap.hn h.snap.hat h.snap.hp h.snap.hb h.hn h.hw
  have hd := dec_size_le m.kind h.hk
  have := rowU_bound 1000000 (by decide) [dec m.kind, loadMs m] (fun x hx => by
    rcases List.mem_cons.1 hx with rfl | hx
    · omega
    · rw [List.mem_singleton.1 hx]; exact hlen)
  have h2 := rowU_count [dec m.kind, loadMs m]
  have e : (putMs m).size = (rowU [dec m.kind, loadMs m]).length := by rw [putMs, if_pos hc, bytes_size]
  rw [e]
  simp only [List.length_cons, List.length_nil] at this h2
  constructor <;> omega
theorem putMs_list (m : Ms) (hc : checkMs m = 0) : (putMs m).data.toList = rowU [dec m.kind, loadMs m] := by
  rw [putMs, if_pos hc]
theorem cut_short (m : Ms) (hc : checkMs m = 0) (j : Nat) (hj : j < (putMs m).size) : Not2 ((putMs m).extract 0 j) := by
  refine not2_short (dec m.kind) (loadMs m) _ ((putMs m).data.toList.drop j) ?_ ?_
  · intro e
    have := congrArg List.length e
    simp at this
    omega
  · rw [extract_list, List.drop_zero, Nat.sub_zero, List.take_append_drop, putMs_list m hc]
theorem cut_more (m : Ms) (hc : checkMs m = 0) (s : ByteArray) (hs : s.size ≠ 0) : Not2 (putMs m ++ s) := by
  refine not2_more (dec m.kind) (loadMs m) _ s.data.toList ?_ ?_
  · intro e
    have := congrArg List.length e
    rw [List.length_nil, Array.length_toList] at this
    exact hs this
  · rw [← putMs_list m hc]; simp
set_option maxHeartbeats 8000000 in
set_option maxRecDepth 100000 in
theorem cuts_any (m : Ms) (v0 v1 v2 : Value) (k : Int) (more : ByteArray) (w : World) (hm : MsOk w m v0 v1 v2) (hk : 0 ≤ k ∧ k ≤ 65535) (hmore : more.size ≤ 140737488351232) (hl : Laid w) :
    Calls Tryd.prog 7 #[.agg (msL m v0 v1 v2).toArray, .int .u16 k, .string more] w fun e w' => e = .returned (.bool true) ∧ Below w.heap.size w w' := by
  have hsm := hm.snap.hs
  have hra : Row (w.alloc (.cells (msL m v0 v1 v2).toArray 31)) w.heap.size 31 (msL m v0 v1 v2).toArray := Row.new w _ 31
  have hb0 := (Below.refl w.heap.size w).alloc (Nat.le_refl _) (.cells (msL m v0 v1 v2).toArray 31)
  have HX := Sec.mk hm
  clear hm
  have HAW := Sec.mk (fun w' (hb : Below w.heap.size w w') => awake_any w' (hl.below hb))
  go_enter Tryd.func7, Tryd.ntmps7
  go_upto_region 1 with (fail)
  refine wp_abs (fun W HW => ?_)
  rw [← HW.out] at hra hb0
  clear HW
  have hxa := ms_whole hra hsm
  go_cut [24] (fun v24 wc => (∃ r : Bool, v24 = .bool r ∧ Sec (r = false → more.size ≤ 300 ∧ more.size ≠ 0)) ∧ Row wc w.heap.size 31 (msL m v0 v1 v2).toArray ∧ Below w.heap.size w wc)
  case first =>
    go_wp2_with (refine wpList_load_list rfl 31 (.tmp 3) rfl w.heap.size 0 rfl _ hxa ?_)
    refine (great_any m v0 v1 v2 _ (HX.out.below hb0)).mono ?_
    rintro e w1 ⟨⟨r, rfl⟩, hb1⟩
    have hra1 := hra.below hb1 hra.lt
    replace hb1 := hb0.trans (hb1.mono hb0.size)
    clear hxa hra hb0
    by_cases hr : 0 < r
    · have hd : decide (0 < r) = true := decide_eq_true hr
      go_wp2_with fail
      go_meet
      exact ⟨⟨_, rfl, ⟨fun h => by cases h⟩⟩, hra1, hb1⟩
    · have hd : decide (0 < r) = false := decide_eq_false hr
      by_cases hbig : (300 : Int) < more.size
      · have hd2 : decide ((300 : Int) < more.size) = true := decide_eq_true hbig
        have hd3 : decide (300 < more.size) = true := decide_eq_true (by omega)
        go_wp2_with fail
        go_meet
        exact ⟨⟨_, rfl, ⟨fun h => by cases h⟩⟩, hra1, hb1⟩
      · have hd2 : decide ((300 : Int) < more.size) = false := decide_eq_false hbig
        have hd3 : decide (300 < more.size) = false := decide_eq_false (by omega)
        by_cases hnil : more.toList = []
        · have hd4 : (more.toList == []) = true := beq_iff_eq.2 hnil
          go_wp2_with fail
          go_meet
          exact ⟨⟨_, rfl, ⟨fun h => by cases h⟩⟩, hra1, hb1⟩
        · have hd4 : (more.toList == []) = false := beq_eq_false_iff_ne.2 hnil
          have HN := Sec.mk hnil
          have HB := Sec.mk hbig
          clear hnil hbig
          go_wp2_with fail
          go_meet
          refine ⟨⟨_, rfl, ⟨fun _ => ⟨by have := HB.out; omega, fun h => HN.out ?_⟩⟩⟩, hra1, hb1⟩
          rw [ByteArray.toList_eq]
          apply List.eq_nil_of_length_eq_zero
          simpa using h
  case rest =>
    clear hxa hra hb0
    obtain ⟨⟨r, rfl, HR⟩, hra, hb⟩ := hcut
    cases r with
    | true =>
      go_wp2_with fail
      refine (HAW.out _ hb).mono ?_
      rintro e w2 ⟨rfl, hb2⟩
      go_wp2_with fail
      go_ret
      exact ⟨rfl, hb.trans (hb2.mono hb.size)⟩
    | false =>
      obtain ⟨hm1, hm2⟩ := HR.out rfl
      clear HR
      have hxa := ms_whole hra hsm
      go_wp2_with (refine wpList_load_list rfl 31 (.tmp 3) rfl w.heap.size 0 rfl _ hxa ?_)
      refine (put_any m v0 v1 v2 _ (HX.out.below hb) (hl.below hb)).mono ?_
      rintro e w2 ⟨rfl, hb2⟩
      have hra2 := hra.below hb2 hra.lt
      replace hb2 := hb.trans (hb2.mono hb.size)
      clear hxa hra hb
      by_cases hcm : checkMs m = 0
      · rw [hcm]
        obtain ⟨hs1, hs2⟩ := putMs_size m HX.out hcm
        obtain ⟨j, hj, hjl⟩ : ∃ j : Nat, Int.tmod k ((putMs m).size : Int) = (j : Int) ∧ j < (putMs m).size := by
          refine ⟨(Int.tmod k ((putMs m).size : Int)).toNat, ?_, ?_⟩
          · have := Int.tmod_nonneg ((putMs m).size : Int) hk.1; omega
          · have h1 := Int.tmod_lt_of_pos k (b := ((putMs m).size : Int)) (by omega)
            have h2 := Int.tmod_nonneg ((putMs m).size : Int) hk.1
            omega
        have HG1 := Sec.mk (fun w => get_not2 ((putMs m).extract 0 j) (by simp; omega) (cut_short m hcm j hjl) w)
        have HG2 := Sec.mk (fun w => get_not2 (putMs m ++ more) (by simp; omega) (cut_more m hcm more hm2) w)
        clear hcm
        generalize putMs m = pm at *
        have z0 : ¬ (pm.size : Int) = 0 := by omega
        have z1 : ((pm.size : Int) == 0) = false := beq_eq_false_iff_ne.2 z0
        have q1 : ((j : Int) ≤ pm.size) = True := eq_true (by omega)
        have q2 : (0 ≤ (j : Int)) = True := eq_true (by omega)
        have hk1 := hk.1
        have hk2 := hk.2
        have hkw : wrap64 k = k := by unfold wrap64; omega
        go_wp2_with fail
        refine (HG1.out w2).mono ?_
        rintro e w3 ⟨rfl, hb3⟩
        replace hb3 := hb2.trans (hb3.mono hb2.size)
        have hx9 := (Row.new w3 (msL ms0 (.slice none 0 0) (.slice none 0 0) (.slice none 0 0)).toArray 31).row (C := (msL ms0 (.slice none 0 0) (.slice none 0 0) (.slice none 0 0)).toArray)
        have hb4 := below_row (hb3.alloc hb3.size (.cells (msL ms0 (.slice none 0 0) (.slice none 0 0) (.slice none 0 0)).toArray 31)) hb3.size (msL ms0 (.slice none 0 0) (.slice none 0 0) (.slice none 0 0)).toArray
        clear hra2 HG1 hb2 hj hkw hk1 hk2 hk hjl q1 q2
        go_upto_region 7 with (refine wpList_store_row rfl 31 (.tmp 9) (.tmp 52) rfl w3.heap.size (msL ms0 (.slice none 0 0) (.slice none 0 0) (.slice none 0 0)).toArray rfl rfl 31 _ (Row.new w3 (msL ms0 (.slice none 0 0) (.slice none 0 0) (.slice none 0 0)).toArray 31) size0 rfl one0 ?_)
        refine wp_abs (fun W4 HW => ?_)
        replace hx9 : Row W4 w3.heap.size 31 (msL ms0 (.slice none 0 0) (.slice none 0 0) (.slice none 0 0)).toArray := by rw [HW.out]; exact hx9
        replace hb4 : Below w.heap.size w W4 := by rw [HW.out]; exact hb4
        clear HW
        have hpm : pm.size + more.size ≤ 3000300 := by omega
        go_wp2_with fail
        refine (HG2.out W4).mono ?_
        rintro e w5 ⟨rfl, hb5⟩
        have hx95 := hx9.below hb5 hx9.lt
        replace hb5 := hb4.trans (hb5.mono hb4.size)
        have hx11 := (Row.new w5 (msL ms0 (.slice none 0 0) (.slice none 0 0) (.slice none 0 0)).toArray 31).row (C := (msL ms0 (.slice none 0 0) (.slice none 0 0) (.slice none 0 0)).toArray)
        have hx96 := (hx95.alloc (.cells (msL ms0 (.slice none 0 0) (.slice none 0 0) (.slice none 0 0)).toArray 31)).rowOther (Nat.ne_of_lt hx95.lt) (msL ms0 (.slice none 0 0) (.slice none 0 0) (.slice none 0 0)).toArray
        have hb6 := below_row (hb5.alloc hb5.size (.cells (msL ms0 (.slice none 0 0) (.slice none 0 0) (.slice none 0 0)).toArray 31)) hb5.size (msL ms0 (.slice none 0 0) (.slice none 0 0) (.slice none 0 0)).toArray
        clear hx9 hx95 HG2 hb4
        go_upto_region 8 with (refine wpList_store_row rfl 31 (.tmp 11) (.tmp 59) rfl w5.heap.size (msL ms0 (.slice none 0 0) (.slice none 0 0) (.slice none 0 0)).toArray rfl rfl 31 _ (Row.new w5 (msL ms0 (.slice none 0 0) (.slice none 0 0) (.slice none 0 0)).toArray 31) size0 rfl one0 ?_)
        refine wp_abs (fun W6 HW => ?_)
        replace hx11 : Row W6 w5.heap.size 31 (msL ms0 (.slice none 0 0) (.slice none 0 0) (.slice none 0 0)).toArray := by rw [HW.out]; exact hx11
        replace hx96 : Row W6 w3.heap.size 31 (msL ms0 (.slice none 0 0) (.slice none 0 0) (.slice none 0 0)).toArray := by rw [HW.out]; exact hx96
        replace hb6 : Below w.heap.size w W6 := by rw [HW.out]; exact hb6
        clear HW
        have HS := Sec.mk (fun W => same_any ms0 ms0 _ _ _ _ _ _ W (ms0_ok W) (ms0_ok W))
        have h9 := ms_whole hx96 (by decide)
        go_wp2_with (refine wpList_load_list rfl 31 (.tmp 9) rfl w3.heap.size 0 rfl _ h9 ?_)
        refine (HS.out W6).mono ?_
        rintro e w7 ⟨⟨r, rfl, hr⟩, hb7⟩
        obtain rfl : r = true := hr.2 trivial
        have hx117 := hx11.below hb7 hx11.lt
        replace hb7 := hb6.trans (hb7.mono hb6.size)
        clear hr h9 hx11 hx96 hb6
        have h11 := ms_whole hx117 (by decide)
        go_wp2_with (refine wpList_load_list rfl 31 (.tmp 11) rfl w5.heap.size 0 rfl _ h11 ?_)
        refine (HS.out w7).mono ?_
        rintro e w8 ⟨⟨r, rfl, hr⟩, hb8⟩
        obtain rfl : r = true := hr.2 trivial
        replace hb8 := hb7.trans (hb8.mono hb7.size)
        clear hr h11 hx117 hb7
        go_wp2_with fail
        refine (HAW.out _ hb8).mono ?_
        rintro e w9 ⟨rfl, hb9⟩
        go_wp2_with fail
        go_ret
        exact ⟨rfl, hb8.trans (hb9.mono hb8.size)⟩
      · generalize checkMs m = z at hcm ⊢
        have hz1 : (z != 0) = true := bne_iff_ne.2 hcm
        have hz2 : (z == 0) = false := beq_eq_false_iff_ne.2 hcm
        generalize putMs m = pm
        go_wp2_with fail
        refine (HAW.out _ hb2).mono ?_
        rintro e w5 ⟨rfl, hb5⟩
        go_wp2_with fail
        go_ret
        exact ⟨rfl, hb2.trans (hb5.mono hb2.size)⟩
end Go.Proofs.YtokcmaehojljdaaDoor
