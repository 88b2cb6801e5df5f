/- The walk of WireLong. -/
import Derived.Test.YtokcmaehojljdaaDoorGet1
import Derived.Test.YtokcmaehojljdaaDoorWkCuts
import Derived.Deep.OwnRows
namespace Go.Proofs.YtokcmaehojljdaaDoor
open Cc (g)
open Go.RowKit Go.Shelf Go.Proofs.YtokcmaehojljdaaDoorW.PrintWords Go.Proofs.YtokcmaehojljdaaDoorW.PrintLast Go.Proofs.YtokcmaehojljdaaDoorW.PrintMore

def mD (k : Int) (s : ByteArray) : Ms := ⟨k, s, sn0, 0, 0⟩
theorem good_mD (k : Int) (s : ByteArray) (hk : k = 1 ∨ k = 2) : goodHas (mD k s) = true := by
  have h1 : may1 k = true := by rcases hk with rfl | rfl <;> rfl
  simp [goodHas, mD, m6_empty, h1]
theorem check_m1 (s : ByteArray) : checkMs (mD 1 s) = if 65536 < s.size then 6 else 0 := by
  unfold checkMs
  rw [if_neg (by show ¬ (okKind 1 = false); decide), if_neg (by rw [good_mD 1 s (.inl rfl)]; decide)]
  by_cases h : 65536 < s.size
  · rw [if_pos ⟨rfl, h⟩, if_pos h]
  · rw [if_neg (fun e => h e.2), if_neg h, if_neg (by simp [mD]), if_neg (by simp [mD])]
theorem check_m2 (s : ByteArray) : checkMs (mD 2 s) = if s.size < 1 ∨ 100 < s.size then 1 else 0 := by
  unfold checkMs
  rw [if_neg (by show ¬ (okKind 2 = false); decide), if_neg (by rw [good_mD 2 s (.inr rfl)]; decide), if_neg (by simp [mD])]
  by_cases h : s.size < 1 ∨ 100 < s.size
  · rw [if_pos (.inl ⟨rfl, h⟩), if_pos h]
  · rw [if_neg (by
      intro e
      rcases e with ⟨_, e⟩ | e | ⟨e, _⟩
      · exact h e
      · exact absurd e (by show ¬ ((0 : Int) < 0); decide)
      · exact absurd e (by show ¬ ((2 : Int) = 5); decide)), if_neg h, if_neg (by show ¬ ((2 : Int) = 3); decide)]
theorem mD_ok (w : World) (k : Int) (s : ByteArray) (hk : k = 1 ∨ k = 2) (hs : s.size ≤ 140737488351232) : MsOk w (mD k s) (.slice none 0 0) (.slice none 0 0) (.slice none 0 0) :=
  nil_ok w k s 0 0 (by omega) hs (by decide) (by decide)
theorem get_m1 (s : ByteArray) (hs : s.size ≤ 65536) (w : World) (hl : LaidE w) :
    Calls Tryd.prog 15 #[.string (putMs (mD 1 s))] w fun e w' => (∃ u0 u1 u2, e = .returned (.tuple #[.agg (msL (mD 1 s) u0 u1 u2).toArray, .int .i64 0]) ∧ MsOk w' (mD 1 s) u0 u1 u2) ∧ Below w.heap.size w w' := by
  have hck : checkMs (mD 1 s) = 0 := by rw [check_m1, if_neg (by omega)]
  have hi := int_dec 1 (by decide) (by decide)
  have hp := putMs_size (mD 1 s) (mD_ok w 1 s (.inl rfl) (by omega)) hck
  have hd := dec_size_le 1 (by decide)
  have hl1 : loadMs (mD 1 s) = s := by
    unfold loadMs
    rw [if_neg (by show ¬ ((1 : Int) = 3); decide), if_neg (by show ¬ ((1 : Int) = 4); decide), if_neg (by show ¬ ((1 : Int) = 5); decide)]
    rfl
  have hrow := ofRow_row [dec 1, s] (putMs (mD 1 s)) (by rw [putMs_list _ hck, hl1]; rfl) (fun x hx => by
    rcases List.mem_cons.1 hx with rfl | hx
    · omega
    · rw [List.mem_singleton.1 hx]; omega)
  refine get_any (putMs (mD 1 s)) (dec 1) s (by omega) hrow (by omega) (by omega) sn0 0 w hl (fun h => ?_) (mD 1 s) (mD 1 s) 0 ?_ ?_
  · rw [hi] at h; exact absurd h (by decide)
  · rw [hi]; rfl
  · rw [if_pos ⟨fun _ => rfl, hck, rfl⟩]; exact ⟨rfl, rfl⟩
theorem info5s : (Tryd.prog.info? 5).map (fun i => (i.zero, i.size, i.bytes)) = some (some (.int .u8 0), 1, 1) := by kernel_rfl
theorem zeros (n : Nat) : madeCells #[Value.int .u8 0] n = vs .u8 (List.replicate n 0) := by
  unfold madeCells vs
  rw [← Array.toList_inj]
  apply List.ext_getElem
  · simp
  · intro j h1 h2
    simp [Nat.mod_one]
theorem fill_next (i N c : Nat) (h : i < N) : (List.replicate i c ++ List.replicate (N - i) 0).set i c = List.replicate (i + 1) c ++ List.replicate (N - (i + 1)) 0 := by
  obtain ⟨m, hm⟩ : ∃ m, N - i = m + 1 := ⟨N - i - 1, by omega⟩
  rw [hm, List.replicate_succ, List.set_append_right _ _ (by simp), List.replicate_succ']
  have : N - (i + 1) = m := by omega
  rw [this]
  simp
set_option maxHeartbeats 8000000 in
set_option maxRecDepth 100000 in
theorem long_any (n c : Nat) (hn : n < 256) (w : World) (hl : LaidE w) :
    Calls Tryd.prog 6 #[.int .u8 (n : Int), .int .u8 (c : Int)] w fun e w' => e = .returned (.bool true) ∧ Below w.heap.size w w' := by
  have HAW := Sec.mk (fun w' (hb : Below w.heap.size w w') => awake_any w' (hl.toLaid.below hb))
  have HL := Sec.mk (fun w' (hb : Below w.heap.size w w') => hl.below hb)
  obtain ⟨r, hr, hr12⟩ : ∃ r : Nat, Int.tmod (n : Int) 12 = (r : Int) ∧ r < 12 := ⟨n % 12, by rw [Int.tmod_eq_emod_of_nonneg (by omega)]; rfl, Nat.mod_lt _ (by decide)⟩
  obtain ⟨N, hN⟩ : ∃ N, N = 65530 + r := ⟨_, rfl⟩
  have hNw : (65530 : Int) + (r : Int) = (N : Int) := by omega
  have hNN : 65530 ≤ N ∧ N < 65542 := by omega
  clear hN
  have hmk : ∀ w' : World, (Instr.makeSlice 42 (.int .i64 (N : Int)) (.int .i64 (N : Int))).run Tryd.prog w' = .ok (.slice (some ⟨w'.heap.size, 0, none⟩) N N) (w'.alloc (.cells (vs .u8 (List.replicate N 0)) 5)) := fun w' => by
    have h := run_make_row' (P := Tryd.prog) 42 5 (.int .u8 0) 1 Tryd.underlying42 info5s rfl .i64 .i64 N (by omega) (by omega) w'
    rw [zeros] at h
    exact h
  have hb0 := (Below.refl w.heap.size w).alloc (Nat.le_refl _) (.cells (vs .u8 (List.replicate N 0)) 5)
  have hr0 := Row.new w (vs .u8 (List.replicate N 0)) 5
  clear hl
  go_enter Tryd.func6, Tryd.ntmps6
  go_upto_region 2 with (fail)
  refine wp_abs (fun W HW => ?_)
  rw [← HW.out] at hr0 hb0
  clear HW hmk hr hNw
  obtain ⟨B, hB⟩ : ∃ B, B = w.heap.size := ⟨_, rfl⟩
  have HB := Sec.mk hB
  rw [← hB] at hr0 ⊢
  clear hB
  go_wp2_with fail
  go_loopw [6] (fun v6 wr => ∃ i : Nat, i ≤ N ∧ v6 = .int .i64 i ∧ Row wr B 5 (vs .u8 (List.replicate i c ++ List.replicate (N - i) 0)) ∧ Below w.heap.size w wr) (fun v6 _ => N - (intOf v6).toNat)
  case atStart => exact ⟨0, by omega, rfl, by simpa using hr0, hb0⟩
  case round =>
    clear hr0 hb0
    obtain ⟨i, hi, rfl, hr0, hb0⟩ := hrel
    by_cases hlt : i < N
    · have hd : decide ((i : Int) < N) = true := decide_eq_true (by omega)
      have p1 : (0 ≤ (i : Int)) = True := eq_true (by omega)
      have q1 : ((i : Int) < N) = True := eq_true (by omega)
      have hcell : wr.cell? ⟨B, i, none⟩ = some (.int .u8 (g (List.replicate i c ++ List.replicate (N - i) 0) i : Nat)) := hr0.cell (by simp; omega)
      have hfr : wr.frozen? ⟨B, i, none⟩ = false := hr0.free i
      have hnx := hr0.set i c
      rw [fill_next i N c hlt] at hnx
      have hb1 := hb0.setCell (p := ⟨B, i, none⟩) (by show w.heap.size ≤ B; rw [HB.out]; exact Nat.le_refl _) (.int .u8 (c : Int))
      clear hr0 hb0
      go_wp2_with fail
      go_roundw
      case rel => exact ⟨i + 1, by omega, by go_num, hnx, hb1⟩
      case measure => simp [intOf]; omega
    · have hd : decide ((i : Int) < N) = false := decide_eq_false (by omega)
      obtain rfl : i = N := by omega
      rw [Nat.sub_self, List.replicate_zero, List.append_nil] at hr0
      have HCV := Sec.mk (fun (w' : World) (h : Row w' B 5 (vs .u8 (List.replicate i c))) => by
        have hcv := run_text_of_row Tryd.underlying42 Tryd.underlying5 Tryd.underlying9 h (o := 0) (n := i) (by simp) i
        rw [List.drop_zero, List.take_of_length_le (by simp)] at hcv
        exact hcv)
      have hcv := HCV.out _ hr0
      have hss : (txt (List.replicate i c)).size = i := by rw [txt_size, List.length_replicate]
      have HP1 := Sec.mk (fun w hl => put_any (mD 1 (txt (List.replicate i c))) _ _ _ w (mD_ok w 1 _ (.inl rfl) (by omega)) hl)
      have HGET := fun h => Sec.mk (fun w hl => get_m1 (txt (List.replicate i c)) h w hl)
      rw [hss] at HGET
      have hck1 := check_m1 (txt (List.replicate i c))
      rw [hss] at hck1
      have hpe : 65536 < i → putMs (mD 1 (txt (List.replicate i c))) = ⟨#[]⟩ := fun h => by
        rw [putMs, if_neg (by rw [check_m1, hss, if_pos h]; decide)]
      have HP2 : ∀ w', Row w' B 5 (vs .u8 (List.replicate i c)) → (convert 42 9 (.slice (some ⟨B, 0, none⟩) n i)).run Tryd.prog w' = .ok (.string (txt ((List.replicate i c).take n))) w' := fun w' h => by
        have hcv2 := run_text_of_row Tryd.underlying42 Tryd.underlying5 Tryd.underlying9 h (o := 0) (n := n) (by simp; omega) i
        rw [List.drop_zero] at hcv2
        exact hcv2
      have HCV2 := Sec.mk HP2
      have hts : (txt ((List.replicate i c).take n)).size = n := by rw [txt_size, List.length_take, List.length_replicate]; omega
      have HP3 := Sec.mk (fun w hl => put_any (mD 2 (txt ((List.replicate i c).take n))) _ _ _ w (mD_ok w 2 _ (.inr rfl) (by omega)) hl)
      have hck2 := check_m2 (txt ((List.replicate i c).take n))
      have hpe2 : checkMs (mD 2 (txt ((List.replicate i c).take n))) ≠ 0 → putMs (mD 2 (txt ((List.replicate i c).take n))) = ⟨#[]⟩ := fun h => by
        rw [putMs, if_neg h]
      rw [hts] at hck2
      generalize List.replicate i c = L at *
      generalize txt (L.take n) = t2 at *
      clear HP2 hss hts hi hlt hd
      have HX := Sec.mk (And.intro hck1 (And.intro hpe (And.intro hck2 hpe2)))
      have HG := Sec.mk HGET
      clear hck1 hpe hck2 hpe2 HGET
      go_wp2_with fail
      refine (HP1.out _ (HL.out _ hb0).toLaid).mono ?_
      rintro e w1 ⟨rfl, hb1⟩
      have hr1 := hr0.below hb1 hr0.lt
      replace hb1 := hb0.trans (hb1.mono hb0.size)
      have hcv2 := HCV2.out _ hr1
      have g2 : (0 ≤ (n : Int)) = True := eq_true (by omega)
      have h2 : ((n : Int) ≤ i) = True := eq_true (by omega)
      clear hr0 hb0 hcv
      go_wp2_with fail
      refine (HP3.out _ (HL.out _ hb1).toLaid).mono ?_
      rintro e w2 ⟨rfl, hb2⟩
      have hr2 := hr1.below hb2 hr1.lt
      replace hb2 := hb1.trans (hb2.mono hb1.size)
      clear hr1 hb1 hcv2 HCV2 HP1 HP3
      generalize checkMs (mD 1 (txt L)) = z1 at *
      generalize putMs (mD 1 (txt L)) = p1 at *
      generalize checkMs (mD 2 t2) = z2 at *
      generalize putMs (mD 2 t2) = p2 at *
      clear g2 h2
      by_cases hbig : 65536 < i
      · obtain rfl : z1 = 6 := by rw [HX.out.1, if_pos hbig]
        obtain rfl : p1 = ⟨#[]⟩ := HX.out.2.1 hbig
        have e1 : decide ((65536 : Int) < i) = true := decide_eq_true (by omega)
        have e2 : decide (65536 < i) = true := decide_eq_true (by omega)
        go_upto_region 14 with (fail)
        by_cases hn2 : 1 ≤ n ∧ n ≤ 100
        · obtain rfl : z2 = 0 := by rw [HX.out.2.2.1, if_neg (by omega)]
          have d1 : decide ((1 : Int) ≤ n) = true := decide_eq_true (by omega)
          have d2 : decide (1 ≤ n) = true := decide_eq_true (by omega)
          have d3 : decide ((n : Int) ≤ 100) = true := decide_eq_true (by omega)
          have d4 : decide (n ≤ 100) = true := decide_eq_true (by omega)
          have d5 : decide (0 < n) = true := decide_eq_true (by omega)
          clear hn2
          go_wp2_with fail
          refine (HAW.out _ hb2).mono ?_
          rintro e w9 ⟨rfl, hb9⟩
          go_wp2_with fail
          go_ret
          exact ⟨rfl, hb2.trans (hb9.mono hb2.size)⟩
        · obtain rfl : z2 = 1 := by rw [HX.out.2.2.1, if_pos (by omega)]
          obtain rfl : p2 = ⟨#[]⟩ := HX.out.2.2.2 (by decide)
          by_cases hn3 : 1 ≤ n
          · have d1 : decide ((1 : Int) ≤ n) = true := decide_eq_true (by omega)
            have d2 : decide (1 ≤ n) = true := decide_eq_true (by omega)
            have d3 : decide ((n : Int) ≤ 100) = false := decide_eq_false (by omega)
            have d4 : decide (n ≤ 100) = false := decide_eq_false (by omega)
            have d5 : decide (0 < n) = true := decide_eq_true (by omega)
            clear hn2 hn3
            go_wp2_with fail
            refine (HAW.out _ hb2).mono ?_
            rintro e w9 ⟨rfl, hb9⟩
            go_wp2_with fail
            go_ret
            exact ⟨rfl, hb2.trans (hb9.mono hb2.size)⟩
          · have d1 : decide ((1 : Int) ≤ n) = false := decide_eq_false (by omega)
            have d2 : decide (1 ≤ n) = false := decide_eq_false (by omega)
            have d5 : decide (0 < n) = false := decide_eq_false (by omega)
            clear hn2 hn3
            go_wp2_with fail
            refine (HAW.out _ hb2).mono ?_
            rintro e w9 ⟨rfl, hb9⟩
            go_wp2_with fail
            go_ret
            exact ⟨rfl, hb2.trans (hb9.mono hb2.size)⟩
      · obtain rfl : z1 = 0 := by rw [HX.out.1, if_neg hbig]
        have e1 : decide ((65536 : Int) < i) = false := decide_eq_false (by omega)
        have e2 : decide (65536 < i) = false := decide_eq_false (by omega)
        have HGG := HG.out (by omega)
        clear hbig
        go_wp2_with fail
        refine (HGG.out _ (HL.out _ hb2)).mono ?_
        rintro e w3 ⟨⟨u0, u1, u2, rfl, hok⟩, hb3⟩
        have hr3 := hr2.below hb3 hr2.lt
        replace hb3 := hb2.trans (hb3.mono hb2.size)
        have hsM := hok.snap.hs
        have sizeM : (Tryd.prog.info? 31).map (·.size) = some (msL (mD 1 (txt L)) u0 u1 u2).toArray.size := by
          rw [List.size_toArray, msL_len hsM]; kernel_rfl
        have holdM : (msL ms0 (.slice none 0 0) (.slice none 0 0) (.slice none 0 0)).toArray.size = (msL (mD 1 (txt L)) u0 u1 u2).toArray.size := by
          rw [List.size_toArray, List.size_toArray, msL_len hsM, msL_len (by decide)]
        have oneM := msL_one (mD 1 (txt L)) hok.snap.h0.one hok.snap.h1.one hok.snap.h2.one
        have hx11 := (Row.new w3 (msL ms0 (.slice none 0 0) (.slice none 0 0) (.slice none 0 0)).toArray 31).row (C := (msL (mD 1 (txt L)) u0 u1 u2).toArray)
        have hr4 := (hr3.alloc (.cells (msL ms0 (.slice none 0 0) (.slice none 0 0) (.slice none 0 0)).toArray 31)).rowOther (Nat.ne_of_lt hr3.lt) (msL (mD 1 (txt L)) u0 u1 u2).toArray
        have hb4 := below_row (hb3.alloc hb3.size (.cells (msL ms0 (.slice none 0 0) (.slice none 0 0) (.slice none 0 0)).toArray 31)) hb3.size (msL (mD 1 (txt L)) u0 u1 u2).toArray
        clear hr3 hr2 hb2 hok HGG
        go_upto_region 12 with (refine wpList_store_row rfl 31 (.tmp 11) (.tmp 57) rfl w3.heap.size (msL (mD 1 (txt L)) u0 u1 u2).toArray rfl rfl 31 _ (Row.new w3 (msL ms0 (.slice none 0 0) (.slice none 0 0) (.slice none 0 0)).toArray 31) sizeM holdM oneM ?_)
        refine wp_abs (fun W4 HW => ?_)
        replace hx11 : Row W4 w3.heap.size 31 (msL (mD 1 (txt L)) u0 u1 u2).toArray := by rw [HW.out]; exact hx11
        replace hr4 : Row W4 B 5 (vs .u8 L) := by rw [HW.out]; exact hr4
        replace hb4 : Below w.heap.size w W4 := by rw [HW.out]; exact hb4
        clear HW sizeM holdM oneM hb3
        have hc1 : W4.cell? ⟨w3.heap.size, 1, none⟩ = some (.string (txt L)) := hx11.at_ 1
        have hcv := HCV.out _ hr4
        have hne : ((txt L).toList == (txt L).toList) = true := beq_self_eq_true _
        clear hx11
        generalize txt L = tL at *
        go_upto_region 14 with (fail)
        by_cases hn2 : 1 ≤ n ∧ n ≤ 100
        · obtain rfl : z2 = 0 := by rw [HX.out.2.2.1, if_neg (by omega)]
          have d1 : decide ((1 : Int) ≤ n) = true := decide_eq_true (by omega)
          have d2 : decide (1 ≤ n) = true := decide_eq_true (by omega)
          have d3 : decide ((n : Int) ≤ 100) = true := decide_eq_true (by omega)
          have d4 : decide (n ≤ 100) = true := decide_eq_true (by omega)
          have d5 : decide (0 < n) = true := decide_eq_true (by omega)
          clear hn2
          go_wp2_with fail
          refine (HAW.out _ hb4).mono ?_
          rintro e w9 ⟨rfl, hb9⟩
          go_wp2_with fail
          go_ret
          exact ⟨rfl, hb4.trans (hb9.mono hb4.size)⟩
        · obtain rfl : z2 = 1 := by rw [HX.out.2.2.1, if_pos (by omega)]
          obtain rfl : p2 = ⟨#[]⟩ := HX.out.2.2.2 (by decide)
          by_cases hn3 : 1 ≤ n
          · have d1 : decide ((1 : Int) ≤ n) = true := decide_eq_true (by omega)
            have d2 : decide (1 ≤ n) = true := decide_eq_true (by omega)
            have d3 : decide ((n : Int) ≤ 100) = false := decide_eq_false (by omega)
            have d4 : decide (n ≤ 100) = false := decide_eq_false (by omega)
            have d5 : decide (0 < n) = true := decide_eq_true (by omega)
            clear hn2 hn3
            go_wp2_with fail
            refine (HAW.out _ hb4).mono ?_
            rintro e w9 ⟨rfl, hb9⟩
            go_wp2_with fail
            go_ret
            exact ⟨rfl, hb4.trans (hb9.mono hb4.size)⟩
          · have d1 : decide ((1 : Int) ≤ n) = false := decide_eq_false (by omega)
            have d2 : decide (1 ≤ n) = false := decide_eq_false (by omega)
            have d5 : decide (0 < n) = false := decide_eq_false (by omega)
            clear hn2 hn3
            go_wp2_with fail
            refine (HAW.out _ hb4).mono ?_
            rintro e w9 ⟨rfl, hb9⟩
            go_wp2_with fail
            go_ret
            exact ⟨rfl, hb4.trans (hb9.mono hb4.size)⟩
end Go.Proofs.YtokcmaehojljdaaDoor
