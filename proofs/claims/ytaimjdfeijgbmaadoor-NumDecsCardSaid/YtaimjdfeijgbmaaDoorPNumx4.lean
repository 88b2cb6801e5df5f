import Derived.Test.YtaimjdfeijgbmaaDoorPNumx0
namespace Go.Proofs.YtaimjdfeijgbmaaDoor.PNum
open Go.RowKit Go.Proofs.YtaimjdfeijgbmaaDoorW.PrintWords Go.Proofs.YtaimjdfeijgbmaaDoorW.PrintLast Go.Proofs.YtaimjdfeijgbmaaDoorW.PrintMore
attribute [local go_sem] max2_int min2_int max_two min_two max_three min_three max_four min_four   -- for this text's walks alone
set_option linter.unusedVariables false
set_option linter.unusedSimpArgs false

-- NOT PRINTED: function 23 (strconv_ParseUint)

-- NOT PRINTED: function 19 (strconv_ParseInt_19)

-- NOT PRINTED: function 35 (stringslite_Clone)

-- NOT PRINTED: function 24 (strconv_syntaxError)

-- NOT PRINTED: function 25 (strconv_rangeError)

-- NOT PRINTED: function 36 (errors_New)

-- NOT PRINTED: function 43 (strconv_Itoa_43)

-- NOT PRINTED: function 37 (strconv_Itoa_37)

-- NOT PRINTED: function 26 (strconv_baseError)

-- NOT PRINTED: function 27 (strconv_bitSizeError)

-- NOT PRINTED: function 20 (strconv_toError)

-- NOT PRINTED: function 12 (strconv_ParseInt_12)

/-! ### hibernacleref01_Dec: function 8 -/
mutual
def hibernacleref01_Dec.j0 : Nat → Int → Bool → Option (ByteArray)
  | 0, _, _ => none
  | k + 1, x0, x9 => if x9 = true then (some (strOfNums (([(wrap64 (48 + x0)) % 256] : List Int)))) else (if x0 < 0 then (hibernacleref01_Dec.j1 k x0 (decide (x0 > (-10)))) else (hibernacleref01_Dec.j1 k x0 false))
def hibernacleref01_Dec.j1 : Nat → Int → Bool → Option (ByteArray)
  | 0, _, _ => none
  | k + 1, x0, x20 => if x20 = true then ((hibernacleref01_Dec.f k (wrap64 (-x0))).bind fun t168 => (if 1 + t168.size ≤ 9223372036854775807 then (some ((⟨#[45]⟩ : ByteArray) ++ t168)) else (none))) else (if (Int.tmod x0 10) < 0 then ((hibernacleref01_Dec.f k (wrap64 (Int.tdiv x0 10))).bind fun t169 => ((hibernacleref01_Dec.f k (wrap64 (-(Int.tmod x0 10)))).bind fun t170 => (if t169.size + t170.size ≤ 9223372036854775807 then (some (t169 ++ t170)) else (none)))) else ((hibernacleref01_Dec.f k (wrap64 (Int.tdiv x0 10))).bind fun t171 => ((hibernacleref01_Dec.f k (Int.tmod x0 10)).bind fun t172 => (if t171.size + t172.size ≤ 9223372036854775807 then (some (t171 ++ t172)) else (none)))))
def hibernacleref01_Dec.f : Nat → Int → Option (ByteArray)
  | 0, _ => none
  | k + 1, a0 => if a0 ≥ 0 then (hibernacleref01_Dec.j0 k a0 (decide (a0 < 10))) else (hibernacleref01_Dec.j0 k a0 false)
end
theorem hibernacleref01_Dec.mono_l : ∀ k, (∀ y0, LeO (hibernacleref01_Dec.f k y0) (hibernacleref01_Dec.f (k + 1) y0)) ∧ (∀ y0 y1, LeO (hibernacleref01_Dec.j0 k y0 y1) (hibernacleref01_Dec.j0 (k + 1) y0 y1)) ∧ (∀ y0 y1, LeO (hibernacleref01_Dec.j1 k y0 y1) (hibernacleref01_Dec.j1 (k + 1) y0 y1))
  | 0 => ⟨fun _ r h => by simp [hibernacleref01_Dec.f] at h, fun _ _ r h => by simp [hibernacleref01_Dec.j0] at h, fun _ _ r h => by simp [hibernacleref01_Dec.j1] at h⟩
  | k + 1 => by
    obtain ⟨ih0, ih1, ih2⟩ := hibernacleref01_Dec.mono_l k
    refine ⟨?_, ?_, ?_⟩
    · intro y0
      unfold hibernacleref01_Dec.f
      repeat' first
      | (with_reducible exact ih0 _)
      | (with_reducible exact ih1 _ _)
      | (with_reducible exact ih2 _ _)
      | (with_reducible exact LeO.refl _)
      | (with_reducible exact LeO.none _)
      | (with_reducible refine LeO.ite ?_ ?_)
      | (with_reducible refine LeO.bind ?_ (fun _ => ?_))
      | exact ih0 _
      | exact ih1 _ _
      | exact ih2 _ _
      | exact LeO.none _
      | refine LeO.ite ?_ ?_
      | refine LeO.bind ?_ (fun _ => ?_)
    · intro y0 y1
      unfold hibernacleref01_Dec.j0
      repeat' first
      | (with_reducible exact ih0 _)
      | (with_reducible exact ih1 _ _)
      | (with_reducible exact ih2 _ _)
      | (with_reducible exact LeO.refl _)
      | (with_reducible exact LeO.none _)
      | (with_reducible refine LeO.ite ?_ ?_)
      | (with_reducible refine LeO.bind ?_ (fun _ => ?_))
      | exact ih0 _
      | exact ih1 _ _
      | exact ih2 _ _
      | exact LeO.none _
      | refine LeO.ite ?_ ?_
      | refine LeO.bind ?_ (fun _ => ?_)
    · intro y0 y1
      unfold hibernacleref01_Dec.j1
      repeat' first
      | (with_reducible exact ih0 _)
      | (with_reducible exact ih1 _ _)
      | (with_reducible exact ih2 _ _)
      | (with_reducible exact LeO.refl _)
      | (with_reducible exact LeO.none _)
      | (with_reducible refine LeO.ite ?_ ?_)
      | (with_reducible refine LeO.bind ?_ (fun _ => ?_))
      | exact ih0 _
      | exact ih1 _ _
      | exact ih2 _ _
      | exact LeO.none _
      | refine LeO.ite ?_ ?_
      | refine LeO.bind ?_ (fun _ => ?_)
theorem hibernacleref01_Dec.mono : ∀ a0 k, LeO (hibernacleref01_Dec.f k a0) (hibernacleref01_Dec.f (k + 1) a0) := by
  intro a0 k
  obtain ⟨ih0, ih1, ih2⟩ := hibernacleref01_Dec.mono_l k
  exact ih0 a0
set_option maxHeartbeats 8000000 in
set_option maxRecDepth 100000 in
theorem hibernacleref01_Dec.calls (k : Nat) : ∀ (a0 : Int) (r : ByteArray) (w : World) (h : hibernacleref01_Dec.f k a0 = some r),
    Calls Tryd.prog 8 #[.int .i64 a0] w fun e w' => e = .returned (.string r) ∧ Below w.heap.size w w' := by
  induction k using Nat.strongRecOn with
  | _ k ih =>
  intro a0 r w h
  cases k with
  | zero => exact absurd h (by simp [hibernacleref01_Dec.f])
  | succ k =>
  simp only [hibernacleref01_Dec.f] at h
  have HB := Aside0.mk (Below.refl w.heap.size w)
  have H : (if a0 ≥ 0 then (hibernacleref01_Dec.j0 k a0 (decide (a0 < 10))) else (hibernacleref01_Dec.j0 k a0 false)) = some r := h
  clear h
  have HC2 := Aside0.mk H
  clear H
  go_enter Tryd.func8, Tryd.ntmps8
  go_upto_region 1 with (fail)
  go_cut [9] (fun v9 wc => ∃ (kq : Nat) (x9_1 : Bool), v9 = .bool x9_1 ∧ Aside0 (hibernacleref01_Dec.j0 kq a0 x9_1 = some r) ∧ Aside0 (kq ≤ k) ∧ Aside0 (Below w.heap.size w wc))
  case first =>
    have H := HC2.out
    clear HC2
    by_cases c3 : a0 ≥ 0
    · rw [if_pos c3] at H
      have c3b0 : decide (0 ≤ a0) = true := decide_eq_true c3
      clear c3
      (first | rw [c3b0] | (simp only [i64_w, i32_w]; rw [c3b0]) | skip)
      have H' := Aside0.mk H
      clear H
      go_wp2
      go_meet
      case rel => exact ⟨_, (decide (a0 < 10)), (by first | rfl | (simp; done) | (simp [*]; done)), H', ⟨by first | omega | exact Nat.le_refl _⟩, ⟨by repeat (first | (with_reducible first | exact HB.out | apply below_alloc | apply pw_below_drewN | apply below_drew1) | exact HB.out)⟩⟩
    · rw [if_neg c3] at H
      have c3b0 : decide (0 ≤ a0) = false := decide_eq_false c3
      clear c3
      (first | rw [c3b0] | (simp only [i64_w, i32_w]; rw [c3b0]) | skip)
      have H' := Aside0.mk H
      clear H
      go_wp2
      go_meet
      case rel => exact ⟨_, (false), (by first | rfl | (simp; done) | (simp [*]; done)), H', ⟨by first | omega | exact Nat.le_refl _⟩, ⟨by repeat (first | (with_reducible first | exact HB.out | apply below_alloc | apply pw_below_drewN | apply below_drew1) | exact HB.out)⟩⟩
  case rest =>
    clear HC2
    try clear p2
    try clear c3
    try clear c3b0
    obtain ⟨kq, x9_1, rfl, HA, HJ1, HB⟩ := hcut
    cases kq with
    | zero => exact absurd HA.out (by simp [hibernacleref01_Dec.j0])
    | succ kj1 =>
      have H := HA.out
      clear HA
      simp only [hibernacleref01_Dec.j0] at H
      by_cases c4 : x9_1 = true
      · subst c4
        have H1 : (some (strOfNums (([(wrap64 (48 + a0)) % 256] : List Int)))) = some r := by rw [if_pos rfl] at H; exact H
        clear H
        have H := H1
        clear H1
        obtain ⟨y165, hy165⟩ : ∃ y_ : List Int, y_ = (([(wrap64 (48 + a0)) % 256] : List Int)) := ⟨_, rfl⟩
        replace H : (some (strOfNums y165)) = some r := by first | (rw [hy165]; with_reducible exact H) | (have H2_ := (Option.bind_some _ _).symm.trans H; rw [hy165]; with_reducible exact H2_) | (have H2_ := (Option.bind_some _ _).symm.trans H; with_reducible exact H2_) | with_reducible exact H | (rw [hy165]; exact H) | exact H
        have Ny165 := Aside0.mk hy165
        clear hy165
        obtain rfl := Option.some.inj H
        go_wp2_with (first | ((with_reducible refine gate_dst (N := 13) rfl ?_); refine Kd.R_lit (Kd.int .u8) _ 5 ?hg (N := 13) ?hd (xs := ([(wrap64 (48 + a0)) % 256] : List Int)) (inner := [.int .u8 ((wrap64 (48 + a0)) % 256)]) (ok := fun _ => True) (okp := fun _ => True) ?hr ?hp (fun _ hk => hk) trivial (Below.refl _ _) (Nat.le_refl _) (by simp) ?_; (case hd => rfl); (case hg => rfl); (case hr => first | (go_simp; done) | (go_simp; rfl)); (case hp => exact (Reps.one (show Kd.M (Kd.int .u8) _ _ _ ((wrap64 (48 + a0)) % 256) [.int .u8 ((wrap64 (48 + a0)) % 256)] from rfl) (Reps.none _ _))); intro v166 w5 ho6 hb hg_ hnew_; clear hg_ hnew_; (first | rw [← Ny165.out] at ho6 | (simp only [Int.reduceToNat] at ho6; rw [← Ny165.out] at ho6)); have n0_ := Aside0.mk (Kd.R_lower ho6 (below_size (by repeat (first | (with_reducible first | exact HB.out | apply below_alloc | apply pw_below_drewN | apply below_drew1) | exact HB.out)))); have n1_ := Aside0.mk (below_step (by repeat (first | (with_reducible first | exact HB.out | apply below_alloc | apply pw_below_drewN | apply below_drew1) | exact HB.out)) hb); clear HB; have HO167 := n0_; have HB := n1_; clear n0_ n1_; clear hb ho6; have hcv7 := own_string (P := Tryd.prog) Tryd.underlying39 Tryd.underlying5 Tryd.underlying9 (Kd.own_of_R HO167.out)))
        go_ret
        exact ⟨by first | rfl | (simp [errW_none, errW_some] <;> rfl) | (simp [*, errW_none, errW_some] <;> rfl), by repeat (first | (with_reducible first | exact HB.out | apply below_alloc | apply pw_below_drewN | apply below_drew1) | exact HB.out)⟩
      · replace c4 := Bool.eq_false_iff.mpr c4
        subst c4
        have H1 : (if a0 < 0 then (hibernacleref01_Dec.j1 kj1 a0 (decide (a0 > (-10)))) else (hibernacleref01_Dec.j1 kj1 a0 false)) = some r := by rw [if_neg (show ¬ (false = true) by decide)] at H; exact H
        clear H
        have H := H1
        clear H1
        have HC8 := Aside0.mk H
        clear H
        go_upto_region 3 with (fail)
        go_cut [20] (fun v20 wc => ∃ (kq : Nat) (x20_7 : Bool), v20 = .bool x20_7 ∧ Aside0 (hibernacleref01_Dec.j1 kq a0 x20_7 = some r) ∧ Aside0 (kq ≤ kj1) ∧ Aside0 (Below w.heap.size w wc))
        case first =>
          have H := HC8.out
          clear HC8
          by_cases c9 : a0 < 0
          · rw [if_pos c9] at H
            have c9b0 : decide (a0 < 0) = true := decide_eq_true c9
            clear c9
            (first | rw [c9b0] | (simp only [i64_w, i32_w]; rw [c9b0]) | skip)
            have H' := Aside0.mk H
            clear H
            go_wp2
            go_meet
            case rel => exact ⟨_, (decide (a0 > (-10))), (by first | rfl | (simp; done) | (simp [*]; done)), H', ⟨by have := HJ1.out; first | omega | exact Nat.le_refl _⟩, ⟨by repeat (first | (with_reducible first | exact HB.out | apply below_alloc | apply pw_below_drewN | apply below_drew1) | exact HB.out)⟩⟩
          · rw [if_neg c9] at H
            have c9b0 : decide (a0 < 0) = false := decide_eq_false c9
            clear c9
            (first | rw [c9b0] | (simp only [i64_w, i32_w]; rw [c9b0]) | skip)
            have H' := Aside0.mk H
            clear H
            go_wp2
            go_meet
            case rel => exact ⟨_, (false), (by first | rfl | (simp; done) | (simp [*]; done)), H', ⟨by have := HJ1.out; first | omega | exact Nat.le_refl _⟩, ⟨by repeat (first | (with_reducible first | exact HB.out | apply below_alloc | apply pw_below_drewN | apply below_drew1) | exact HB.out)⟩⟩
        case rest =>
          clear HC8
          try clear p2
          try clear c3
          try clear c3b0
          try clear c4
          try clear p6
          try clear hcv7
          try clear c8
          try clear c9
          try clear c9b0
          try clear p2
          obtain ⟨kq, x20_7, rfl, HA, HJ7, HB⟩ := hcut
          cases kq with
          | zero => exact absurd HA.out (by simp [hibernacleref01_Dec.j1])
          | succ kj7 =>
            have H := HA.out
            clear HA
            simp only [hibernacleref01_Dec.j1] at H
            by_cases c10 : x20_7 = true
            · subst c10
              have H1 : ((hibernacleref01_Dec.f kj7 (wrap64 (-a0))).bind fun t168 => (if 1 + t168.size ≤ 9223372036854775807 then (some ((⟨#[45]⟩ : ByteArray) ++ t168)) else (none))) = some r := by rw [if_pos rfl] at H; exact H
              clear H
              have H := H1
              clear H1
              replace H := Option.bind_eq_some_iff.mp H
              obtain ⟨t168, A110, H⟩ := H
              replace H : (if 1 + t168.size ≤ 9223372036854775807 then (some ((⟨#[45]⟩ : ByteArray) ++ t168)) else (none)) = some r := H
              have A11 := Aside0.mk A110
              clear A110
              by_cases c12 : 1 + t168.size ≤ 9223372036854775807
              · rw [if_pos c12] at H
                have c12b0 := eq_true c12
                have c12b1 : decide (1 + t168.size ≤ 9223372036854775807) = true := decide_eq_true c12
                try have c12b2 : (9223372036854775807 < 1 + t168.size) = False := eq_false (Nat.not_lt.2 c12)
                obtain rfl := Option.some.inj H
                go_wp2_with (first | ((with_reducible refine gate_callee (f := 8) rfl ?_); refine goesL_ (some 23) rfl rfl Tryd.func8 (by kernel_rfl) rfl #[.int .i64 (wrap64 (-a0))] rfl (by (try simp only [List.map_toArray, List.map_cons, List.map_nil]); first | done | rfl | (simp only [List.length_drop, List.length_take]; rfl)) ?_; (with_reducible refine (ih kj7 (by have := HJ1.out; have := HJ7.out; omega) (wrap64 (-a0)) t168 _ A11.out).mono ?_); rintro e w13 ⟨rfl, hb⟩; refine ⟨_, rfl, ?_⟩; have n0_ := Aside0.mk (below_step (by repeat (first | (with_reducible first | exact HB.out | apply below_alloc | apply pw_below_drewN | apply below_drew1) | exact HB.out)) hb); clear HB; have HB := n0_; clear n0_; (try clear hb); (try clear hb2); (try clear hk); (try clear hi)))
                go_ret
                exact ⟨by first | rfl | (simp [errW_none, errW_some] <;> rfl) | (simp [*, errW_none, errW_some] <;> rfl), by repeat (first | (with_reducible first | exact HB.out | apply below_alloc | apply pw_below_drewN | apply below_drew1) | exact HB.out)⟩
              · rw [if_neg c12] at H
                exact absurd H (by simp)
            · replace c10 := Bool.eq_false_iff.mpr c10
              subst c10
              have H1 : (if (Int.tmod a0 10) < 0 then ((hibernacleref01_Dec.f kj7 (wrap64 (Int.tdiv a0 10))).bind fun t169 => ((hibernacleref01_Dec.f kj7 (wrap64 (-(Int.tmod a0 10)))).bind fun t170 => (if t169.size + t170.size ≤ 9223372036854775807 then (some (t169 ++ t170)) else (none)))) else ((hibernacleref01_Dec.f kj7 (wrap64 (Int.tdiv a0 10))).bind fun t171 => ((hibernacleref01_Dec.f kj7 (Int.tmod a0 10)).bind fun t172 => (if t171.size + t172.size ≤ 9223372036854775807 then (some (t171 ++ t172)) else (none))))) = some r := by rw [if_neg (show ¬ (false = true) by decide)] at H; exact H
              clear H
              have H := H1
              clear H1
              by_cases c14 : (Int.tmod a0 10) < 0
              · rw [if_pos c14] at H
                have c14b0 : decide ((Int.tmod a0 10) < 0) = true := decide_eq_true c14
                clear c14
                replace H := Option.bind_eq_some_iff.mp H
                obtain ⟨t169, A150, H⟩ := H
                replace H : ((hibernacleref01_Dec.f kj7 (wrap64 (-(Int.tmod a0 10)))).bind fun t170 => (if t169.size + t170.size ≤ 9223372036854775807 then (some (t169 ++ t170)) else (none))) = some r := H
                have A15 := Aside0.mk A150
                clear A150
                replace H := Option.bind_eq_some_iff.mp H
                obtain ⟨t170, A160, H⟩ := H
                replace H : (if t169.size + t170.size ≤ 9223372036854775807 then (some (t169 ++ t170)) else (none)) = some r := H
                have A16 := Aside0.mk A160
                clear A160
                by_cases c17 : t169.size + t170.size ≤ 9223372036854775807
                · rw [if_pos c17] at H
                  have c17b0 := eq_true c17
                  have c17b1 : decide (t169.size + t170.size ≤ 9223372036854775807) = true := decide_eq_true c17
                  try have c17b2 : (9223372036854775807 < t169.size + t170.size) = False := eq_false (Nat.not_lt.2 c17)
                  obtain rfl := Option.some.inj H
                  go_wp2_with (first | ((with_reducible refine gate_callee (f := 8) rfl ?_); refine goesL_ (some 33) rfl rfl Tryd.func8 (by kernel_rfl) rfl #[.int .i64 (wrap64 (Int.tdiv a0 10))] rfl (by (try simp only [List.map_toArray, List.map_cons, List.map_nil]); first | done | rfl | (simp only [List.length_drop, List.length_take]; rfl)) ?_; (with_reducible refine (ih kj7 (by have := HJ1.out; have := HJ7.out; omega) (wrap64 (Int.tdiv a0 10)) t169 _ A15.out).mono ?_); rintro e w18 ⟨rfl, hb⟩; refine ⟨_, rfl, ?_⟩; have n0_ := Aside0.mk (below_step (by repeat (first | (with_reducible first | exact HB.out | apply below_alloc | apply pw_below_drewN | apply below_drew1) | exact HB.out)) hb); clear HB; have HB := n0_; clear n0_; (try clear hb); (try clear hb2); (try clear hk); (try clear hi)) | ((with_reducible refine gate_callee (f := 8) rfl ?_); refine goesL_ (some 35) rfl rfl Tryd.func8 (by kernel_rfl) rfl #[.int .i64 (wrap64 (-(Int.tmod a0 10)))] rfl (by (try simp only [List.map_toArray, List.map_cons, List.map_nil]); first | done | rfl | (simp only [List.length_drop, List.length_take]; rfl)) ?_; (with_reducible refine (ih kj7 (by have := HJ1.out; have := HJ7.out; omega) (wrap64 (-(Int.tmod a0 10))) t170 _ A16.out).mono ?_); rintro e w19 ⟨rfl, hb⟩; refine ⟨_, rfl, ?_⟩; have n0_ := Aside0.mk (below_step (by repeat (first | (with_reducible first | exact HB.out | apply below_alloc | apply pw_below_drewN | apply below_drew1) | exact HB.out)) hb); clear HB; have HB := n0_; clear n0_; (try clear hb); (try clear hb2); (try clear hk); (try clear hi)))
                  go_ret
                  exact ⟨by first | rfl | (simp [errW_none, errW_some] <;> rfl) | (simp [*, errW_none, errW_some] <;> rfl), by repeat (first | (with_reducible first | exact HB.out | apply below_alloc | apply pw_below_drewN | apply below_drew1) | exact HB.out)⟩
                · rw [if_neg c17] at H
                  exact absurd H (by simp)
              · rw [if_neg c14] at H
                have c14b0 : decide ((Int.tmod a0 10) < 0) = false := decide_eq_false c14
                clear c14
                replace H := Option.bind_eq_some_iff.mp H
                obtain ⟨t171, A200, H⟩ := H
                replace H : ((hibernacleref01_Dec.f kj7 (Int.tmod a0 10)).bind fun t172 => (if t171.size + t172.size ≤ 9223372036854775807 then (some (t171 ++ t172)) else (none))) = some r := H
                have A20 := Aside0.mk A200
                clear A200
                replace H := Option.bind_eq_some_iff.mp H
                obtain ⟨t172, A210, H⟩ := H
                replace H : (if t171.size + t172.size ≤ 9223372036854775807 then (some (t171 ++ t172)) else (none)) = some r := H
                have A21 := Aside0.mk A210
                clear A210
                by_cases c22 : t171.size + t172.size ≤ 9223372036854775807
                · rw [if_pos c22] at H
                  have c22b0 := eq_true c22
                  have c22b1 : decide (t171.size + t172.size ≤ 9223372036854775807) = true := decide_eq_true c22
                  try have c22b2 : (9223372036854775807 < t171.size + t172.size) = False := eq_false (Nat.not_lt.2 c22)
                  obtain rfl := Option.some.inj H
                  go_wp2_with (first | ((with_reducible refine gate_callee (f := 8) rfl ?_); refine goesL_ (some 33) rfl rfl Tryd.func8 (by kernel_rfl) rfl #[.int .i64 (wrap64 (Int.tdiv a0 10))] rfl (by (try simp only [List.map_toArray, List.map_cons, List.map_nil]); first | done | rfl | (simp only [List.length_drop, List.length_take]; rfl)) ?_; (with_reducible refine (ih kj7 (by have := HJ1.out; have := HJ7.out; omega) (wrap64 (Int.tdiv a0 10)) t171 _ A20.out).mono ?_); rintro e w23 ⟨rfl, hb⟩; refine ⟨_, rfl, ?_⟩; have n0_ := Aside0.mk (below_step (by repeat (first | (with_reducible first | exact HB.out | apply below_alloc | apply pw_below_drewN | apply below_drew1) | exact HB.out)) hb); clear HB; have HB := n0_; clear n0_; (try clear hb); (try clear hb2); (try clear hk); (try clear hi)) | ((with_reducible refine gate_callee (f := 8) rfl ?_); refine goesL_ (some 35) rfl rfl Tryd.func8 (by kernel_rfl) rfl #[.int .i64 (Int.tmod a0 10)] rfl (by (try simp only [List.map_toArray, List.map_cons, List.map_nil]); first | done | rfl | (simp only [List.length_drop, List.length_take]; rfl)) ?_; (with_reducible refine (ih kj7 (by have := HJ1.out; have := HJ7.out; omega) (Int.tmod a0 10) t172 _ A21.out).mono ?_); rintro e w24 ⟨rfl, hb⟩; refine ⟨_, rfl, ?_⟩; have n0_ := Aside0.mk (below_step (by repeat (first | (with_reducible first | exact HB.out | apply below_alloc | apply pw_below_drewN | apply below_drew1) | exact HB.out)) hb); clear HB; have HB := n0_; clear n0_; (try clear hb); (try clear hb2); (try clear hk); (try clear hi)))
                  go_ret
                  exact ⟨by first | rfl | (simp [errW_none, errW_some] <;> rfl) | (simp [*, errW_none, errW_some] <;> rfl), by repeat (first | (with_reducible first | exact HB.out | apply below_alloc | apply pw_below_drewN | apply below_drew1) | exact HB.out)⟩
                · rw [if_neg c22] at H
                  exact absurd H (by simp)

/-! ### hibernacleref01_Int: function 6 -/
mutual
def hibernacleref01_Int.j0 : Nat → ByteArray → Bool → Option (Int × Bool)
  | 0, _, _ => none
  | k + 1, x0, x13 => if x13 = true then (some (0, false)) else (hibernacleref01_Int.l0 k x0 0 0)
def hibernacleref01_Int.l0 : Nat → ByteArray → Int → Int → Option (Int × Bool)
  | 0, _, _, _ => none
  | k + 1, x0, x4, x5 => if x5 < (x0.size : Int) then (if 0 ≤ x5 then (if (bt x0 x5) = 45 then (hibernacleref01_Int.j2 k x0 x4 x5 (x5 == 0)) else (hibernacleref01_Int.j2 k x0 x4 x5 false)) else (none)) else ((hibernacleref01_Dec.f k x4).bind fun t173 => (if t173.toList = x0.toList then (some (x4, true)) else (some (0, false))))
def hibernacleref01_Int.j2 : Nat → ByteArray → Int → Int → Bool → Option (Int × Bool)
  | 0, _, _, _, _ => none
  | k + 1, x0, x4, x5, x27 => if x27 = true then (hibernacleref01_Int.l0 k x0 x4 (wrap64 (x5 + 1))) else (if 0 ≤ x5 then (if x5 < (x0.size : Int) then (if (bt x0 x5) < 48 then (hibernacleref01_Int.j3 k x0 x4 x5 true) else (hibernacleref01_Int.j3 k x0 x4 x5 (decide ((bt x0 x5) > 57)))) else (none)) else (none))
def hibernacleref01_Int.j3 : Nat → ByteArray → Int → Int → Bool → Option (Int × Bool)
  | 0, _, _, _, _ => none
  | k + 1, x0, x4, x5, x37 => if x37 = true then (some (0, false)) else (if 0 < (x0.size : Int) then (if (bt x0 0) = 45 then (if 0 ≤ x5 then (if x5 < (x0.size : Int) then (hibernacleref01_Int.l0 k x0 (wrap64 ((wrap64 (x4 * 10)) - (((bt x0 x5) - 48) % 256))) (wrap64 (x5 + 1))) else (none)) else (none)) else (if 0 ≤ x5 then (if x5 < (x0.size : Int) then (hibernacleref01_Int.l0 k x0 (wrap64 ((wrap64 (x4 * 10)) + (((bt x0 x5) - 48) % 256))) (wrap64 (x5 + 1))) else (none)) else (none))) else (none))
end
def hibernacleref01_Int.f (k : Nat) (a0 : ByteArray) : Option (Int × Bool) := if (a0.size : Int) = 0 then (hibernacleref01_Int.j0 k a0 true) else (hibernacleref01_Int.j0 k a0 (decide ((a0.size : Int) > 20)))
theorem hibernacleref01_Int.mono_l : ∀ k, (∀ y0 y1, LeO (hibernacleref01_Int.j0 k y0 y1) (hibernacleref01_Int.j0 (k + 1) y0 y1)) ∧ (∀ y0 y1 y2, LeO (hibernacleref01_Int.l0 k y0 y1 y2) (hibernacleref01_Int.l0 (k + 1) y0 y1 y2)) ∧ (∀ y0 y1 y2 y3, LeO (hibernacleref01_Int.j2 k y0 y1 y2 y3) (hibernacleref01_Int.j2 (k + 1) y0 y1 y2 y3)) ∧ (∀ y0 y1 y2 y3, LeO (hibernacleref01_Int.j3 k y0 y1 y2 y3) (hibernacleref01_Int.j3 (k + 1) y0 y1 y2 y3))
  | 0 => ⟨fun _ _ r h => by simp [hibernacleref01_Int.j0] at h, fun _ _ _ r h => by simp [hibernacleref01_Int.l0] at h, fun _ _ _ _ r h => by simp [hibernacleref01_Int.j2] at h, fun _ _ _ _ r h => by simp [hibernacleref01_Int.j3] at h⟩
  | k + 1 => by
    obtain ⟨ih0, ih1, ih2, ih3⟩ := hibernacleref01_Int.mono_l k
    refine ⟨?_, ?_, ?_, ?_⟩
    · intro y0 y1
      unfold hibernacleref01_Int.j0
      repeat' first
      | (with_reducible exact ih0 _ _)
      | (with_reducible exact ih1 _ _ _)
      | (with_reducible exact ih2 _ _ _ _)
      | (with_reducible exact ih3 _ _ _ _)
      | (with_reducible exact hibernacleref01_Dec.mono _ _)
      | (with_reducible exact LeO.refl _)
      | (with_reducible exact LeO.none _)
      | (with_reducible refine LeO.ite ?_ ?_)
      | (with_reducible refine LeO.bind ?_ (fun _ => ?_))
      | exact ih0 _ _
      | exact ih1 _ _ _
      | exact ih2 _ _ _ _
      | exact ih3 _ _ _ _
      | exact hibernacleref01_Dec.mono _ _
      | exact LeO.none _
      | refine LeO.ite ?_ ?_
      | refine LeO.bind ?_ (fun _ => ?_)
    · intro y0 y1 y2
      unfold hibernacleref01_Int.l0
      repeat' first
      | (with_reducible exact ih0 _ _)
      | (with_reducible exact ih1 _ _ _)
      | (with_reducible exact ih2 _ _ _ _)
      | (with_reducible exact ih3 _ _ _ _)
      | (with_reducible exact hibernacleref01_Dec.mono _ _)
      | (with_reducible exact LeO.refl _)
      | (with_reducible exact LeO.none _)
      | (with_reducible refine LeO.ite ?_ ?_)
      | (with_reducible refine LeO.bind ?_ (fun _ => ?_))
      | exact ih0 _ _
      | exact ih1 _ _ _
      | exact ih2 _ _ _ _
      | exact ih3 _ _ _ _
      | exact hibernacleref01_Dec.mono _ _
      | exact LeO.none _
      | refine LeO.ite ?_ ?_
      | refine LeO.bind ?_ (fun _ => ?_)
    · intro y0 y1 y2 y3
      unfold hibernacleref01_Int.j2
      repeat' first
      | (with_reducible exact ih0 _ _)
      | (with_reducible exact ih1 _ _ _)
      | (with_reducible exact ih2 _ _ _ _)
      | (with_reducible exact ih3 _ _ _ _)
      | (with_reducible exact hibernacleref01_Dec.mono _ _)
      | (with_reducible exact LeO.refl _)
      | (with_reducible exact LeO.none _)
      | (with_reducible refine LeO.ite ?_ ?_)
      | (with_reducible refine LeO.bind ?_ (fun _ => ?_))
      | exact ih0 _ _
      | exact ih1 _ _ _
      | exact ih2 _ _ _ _
      | exact ih3 _ _ _ _
      | exact hibernacleref01_Dec.mono _ _
      | exact LeO.none _
      | refine LeO.ite ?_ ?_
      | refine LeO.bind ?_ (fun _ => ?_)
    · intro y0 y1 y2 y3
      unfold hibernacleref01_Int.j3
      repeat' first
      | (with_reducible exact ih0 _ _)
      | (with_reducible exact ih1 _ _ _)
      | (with_reducible exact ih2 _ _ _ _)
      | (with_reducible exact ih3 _ _ _ _)
      | (with_reducible exact hibernacleref01_Dec.mono _ _)
      | (with_reducible exact LeO.refl _)
      | (with_reducible exact LeO.none _)
      | (with_reducible refine LeO.ite ?_ ?_)
      | (with_reducible refine LeO.bind ?_ (fun _ => ?_))
      | exact ih0 _ _
      | exact ih1 _ _ _
      | exact ih2 _ _ _ _
      | exact ih3 _ _ _ _
      | exact hibernacleref01_Dec.mono _ _
      | exact LeO.none _
      | refine LeO.ite ?_ ?_
      | refine LeO.bind ?_ (fun _ => ?_)
theorem hibernacleref01_Int.mono : ∀ a0 k, LeO (hibernacleref01_Int.f k a0) (hibernacleref01_Int.f (k + 1) a0) := by
  intro a0 k
  obtain ⟨ih0, ih1, ih2, ih3⟩ := hibernacleref01_Int.mono_l k
  unfold hibernacleref01_Int.f
  repeat' first
      | (with_reducible exact ih0 _ _)
      | (with_reducible exact ih1 _ _ _)
      | (with_reducible exact ih2 _ _ _ _)
      | (with_reducible exact ih3 _ _ _ _)
      | (with_reducible exact hibernacleref01_Dec.mono _ _)
      | (with_reducible exact LeO.refl _)
      | (with_reducible exact LeO.none _)
      | (with_reducible refine LeO.ite ?_ ?_)
      | (with_reducible refine LeO.bind ?_ (fun _ => ?_))
      | exact ih0 _ _
      | exact ih1 _ _ _
      | exact ih2 _ _ _ _
      | exact ih3 _ _ _ _
      | exact hibernacleref01_Dec.mono _ _
      | exact LeO.none _
      | refine LeO.ite ?_ ?_
      | refine LeO.bind ?_ (fun _ => ?_)
set_option maxHeartbeats 8000000 in
set_option maxRecDepth 100000 in
theorem hibernacleref01_Int.calls (k : Nat) (a0 : ByteArray) (r1 : Int) (r2 : Bool) (w : World) (h : hibernacleref01_Int.f k a0 = some (r1, r2)) :
    Calls Tryd.prog 6 #[.string a0] w fun e w' => e = .returned (.tuple #[.int .i64 r1, .bool r2]) ∧ Below w.heap.size w w' := by
  have HB := Aside0.mk (Below.refl w.heap.size w)
  have H : (if (a0.size : Int) = 0 then (hibernacleref01_Int.j0 k a0 true) else (hibernacleref01_Int.j0 k a0 (decide ((a0.size : Int) > 20)))) = some (r1, r2) := h
  clear h
  have HC2 := Aside0.mk H
  clear H
  go_enter Tryd.func6, Tryd.ntmps6
  go_upto_region 1 with (fail)
  go_cut [13] (fun v13 wc => ∃ (kq : Nat) (x13_1 : Bool), v13 = .bool x13_1 ∧ Aside0 (hibernacleref01_Int.j0 kq a0 x13_1 = some (r1, r2)) ∧ Aside0 (kq ≤ k) ∧ Aside0 (Below w.heap.size w wc))
  case first =>
    have H := HC2.out
    clear HC2
    by_cases c3 : (a0.size : Int) = 0
    · rw [if_pos c3] at H
      have c3b0 : ((a0.size : Int) == 0) = true := beq_iff_eq.mpr c3
      have c3b1 : ((a0.size : Int) != 0) = false := bne_eq_false_iff_eq.mpr c3
      clear c3
      (first | rw [c3b0] | (simp only [i64_w, i32_w]; rw [c3b0]) | skip)
      have H' := Aside0.mk H
      clear H
      go_wp2
      go_meet
      case rel => exact ⟨_, (true), (by first | rfl | (simp; done) | (simp [*]; done)), H', ⟨by first | omega | exact Nat.le_refl _⟩, ⟨by repeat (first | (with_reducible first | exact HB.out | apply below_alloc | apply pw_below_drewN | apply below_drew1) | exact HB.out)⟩⟩
    · rw [if_neg c3] at H
      have c3b0 : ((a0.size : Int) == 0) = false := beq_eq_false_iff_ne.mpr c3
      have c3b1 : ((a0.size : Int) != 0) = true := bne_iff_ne.mpr c3
      (first | rw [c3b0] | (simp only [i64_w, i32_w]; rw [c3b0]) | skip)
      have H' := Aside0.mk H
      clear H
      go_wp2
      go_meet
      case rel => exact ⟨_, (decide ((a0.size : Int) > 20)), (by first | rfl | (simp; done) | (simp [*]; done)), H', ⟨by first | omega | exact Nat.le_refl _⟩, ⟨by repeat (first | (with_reducible first | exact HB.out | apply below_alloc | apply pw_below_drewN | apply below_drew1) | exact HB.out)⟩⟩
  case rest =>
    clear HC2
    try clear p2
    try clear c3
    try clear c3b0
    try clear c3b1
    obtain ⟨kq, x13_1, rfl, HA, HJ1, HB⟩ := hcut
    cases kq with
    | zero => exact absurd HA.out (by simp [hibernacleref01_Int.j0])
    | succ kj1 =>
      have H := HA.out
      clear HA
      simp only [hibernacleref01_Int.j0] at H
      by_cases c4 : x13_1 = true
      · subst c4
        have H1 : (some (0, false)) = some (r1, r2) := by rw [if_pos rfl] at H; exact H
        clear H
        have H := H1
        clear H1
        simp only [Option.some.injEq, Prod.mk.injEq] at H
        obtain ⟨rfl, rfl⟩ := H
        go_wp2
        go_ret2
        exact ⟨by first | rfl | (simp [errW_none, errW_some] <;> rfl) | (simp [*, errW_none, errW_some] <;> rfl), by repeat (first | (with_reducible first | exact HB.out | apply below_alloc | apply pw_below_drewN | apply below_drew1) | exact HB.out)⟩
      · replace c4 := Bool.eq_false_iff.mpr c4
        subst c4
        have H1 : (hibernacleref01_Int.l0 kj1 a0 0 0) = some (r1, r2) := by rw [if_neg (show ¬ (false = true) by decide)] at H; exact H
        clear H
        have H := H1
        clear H1
        have H' := Aside0.mk H
        clear H
        go_wp2
        go_loopg [4, 5] kj1 (fun kq v4 v5 w' => ∃ (x4_2 : Int) (x5_2 : Int), v4 = .int .i64 x4_2 ∧ v5 = .int .i64 x5_2 ∧ Aside0 (hibernacleref01_Int.l0 kq a0 x4_2 x5_2 = some (r1, r2)) ∧ Aside0 (kq ≤ kj1) ∧ Aside0 (Below w.heap.size w w'))
        case atStart => exact ⟨(0), (0), (by first | rfl | (simp; done) | (simp [*]; done)), (by first | rfl | (simp; done) | (simp [*]; done)), H', ⟨Nat.le_refl _⟩, ⟨by repeat (first | (with_reducible first | exact HB.out | apply below_alloc | apply pw_below_drewN | apply below_drew1) | exact HB.out)⟩⟩
        case round =>
          clear H'
          try clear p2
          try clear c3
          try clear c3b0
          try clear c3b1
          try clear c4
          try clear p2
          obtain ⟨x4_2, x5_2, rfl, rfl, HA, HK2, HB⟩ := hrel
          cases gk with
          | zero => exact absurd HA.out (by simp [hibernacleref01_Int.l0])
          | succ k2 =>
            have H := HA.out
            clear HA
            simp only [hibernacleref01_Int.l0] at H
            by_cases c5 : x5_2 < (a0.size : Int)
            · rw [if_pos c5] at H
              have c5b0 : decide (x5_2 < (a0.size : Int)) = true := decide_eq_true c5
              clear c5
              have HC6 := Aside0.mk H
              clear H
              go_upto_region 7 with (fail)
              go_cut [27] (fun v27 wc => ∃ (kq : Nat) (x27_5 : Bool), v27 = .bool x27_5 ∧ Aside0 (hibernacleref01_Int.j2 kq a0 x4_2 x5_2 x27_5 = some (r1, r2)) ∧ Aside0 (kq ≤ k2) ∧ Aside0 (Below w.heap.size w wc))
              case first =>
                have H := HC6.out
                clear HC6
                by_cases c7 : 0 ≤ x5_2
                · rw [if_pos c7] at H
                  have c7b0 : decide (0 ≤ x5_2) = true := decide_eq_true c7
                  clear c7
                  (first | rw [c7b0] | (simp only [i64_w, i32_w]; rw [c7b0]) | skip)
                  by_cases c9 : (bt a0 x5_2) = 45
                  · rw [if_pos c9] at H
                    have c9b0 : ((bt a0 x5_2) == 45) = true := beq_iff_eq.mpr c9
                    have c9b1 : ((bt a0 x5_2) != 45) = false := bne_eq_false_iff_eq.mpr c9
                    clear c9
                    have H' := Aside0.mk H
                    clear H
                    have p8 : 0 ≤ (x5_2 : Int) := of_decide_eq_true (by first | (with_reducible assumption) | assumption)
                    have q8 : x5_2 < (a0.size : Int) := of_decide_eq_true (by first | (with_reducible assumption) | assumption)
                    have hx8 := bt_at a0 x5_2
                    replace p8 := eq_true p8
                    replace q8 := eq_true q8
                    go_wp2
                    go_meet
                    case rel => exact ⟨_, ((x5_2 == 0)), (by first | rfl | (simp; done) | (simp [*]; done)), H', ⟨by have := HJ1.out; have := HK2.out; first | omega | exact Nat.le_refl _⟩, ⟨by repeat (first | (with_reducible first | exact HB.out | apply below_alloc | apply pw_below_drewN | apply below_drew1) | exact HB.out)⟩⟩
                  · rw [if_neg c9] at H
                    have c9b0 : ((bt a0 x5_2) == 45) = false := beq_eq_false_iff_ne.mpr c9
                    have c9b1 : ((bt a0 x5_2) != 45) = true := bne_iff_ne.mpr c9
                    have H' := Aside0.mk H
                    clear H
                    have p8 : 0 ≤ (x5_2 : Int) := of_decide_eq_true (by first | (with_reducible assumption) | assumption)
                    have q8 : x5_2 < (a0.size : Int) := of_decide_eq_true (by first | (with_reducible assumption) | assumption)
                    have hx8 := bt_at a0 x5_2
                    replace p8 := eq_true p8
                    replace q8 := eq_true q8
                    go_wp2
                    go_meet
                    case rel => exact ⟨_, (false), (by first | rfl | (simp; done) | (simp [*]; done)), H', ⟨by have := HJ1.out; have := HK2.out; first | omega | exact Nat.le_refl _⟩, ⟨by repeat (first | (with_reducible first | exact HB.out | apply below_alloc | apply pw_below_drewN | apply below_drew1) | exact HB.out)⟩⟩
                · rw [if_neg c7] at H
                  exact absurd H (by simp)
              case rest =>
                clear HC6
                try clear p2
                try clear c3
                try clear c3b0
                try clear c3b1
                try clear c4
                try clear c5
                try clear c5b0
                try clear c6
                try clear c7
                try clear c7b0
                try clear p8
                try clear q8
                try clear hx8
                try clear c9
                try clear c9b0
                try clear c9b1
                try clear p2
                try clear p8
                try clear q8
                obtain ⟨kq, x27_5, rfl, HA, HJ5, HB⟩ := hcut
                cases kq with
                | zero => exact absurd HA.out (by simp [hibernacleref01_Int.j2])
                | succ kj5 =>
                  have H := HA.out
                  clear HA
                  simp only [hibernacleref01_Int.j2] at H
                  by_cases c10 : x27_5 = true
                  · subst c10
                    have H1 : (hibernacleref01_Int.l0 kj5 a0 x4_2 (wrap64 (x5_2 + 1))) = some (r1, r2) := by rw [if_pos rfl] at H; exact H
                    clear H
                    have H := H1
                    clear H1
                    have H' := Aside0.mk H
                    clear H
                    go_wp2
                    go_roundg kj5
                    case measure => have := HJ1.out; have := HK2.out; have := HJ5.out; omega
                    case rel => exact ⟨(x4_2), (wrap64 (x5_2 + 1)), (by first | rfl | (simp; done) | (simp [*]; done)), (by first | rfl | (simp; done) | (simp [*]; done)), H', ⟨by have := HJ1.out; have := HK2.out; have := HJ5.out; omega⟩, ⟨by repeat (first | (with_reducible first | exact HB.out | apply below_alloc | apply pw_below_drewN | apply below_drew1) | exact HB.out)⟩⟩
                  · replace c10 := Bool.eq_false_iff.mpr c10
                    subst c10
                    have H1 : (if 0 ≤ x5_2 then (if x5_2 < (a0.size : Int) then (if (bt a0 x5_2) < 48 then (hibernacleref01_Int.j3 kj5 a0 x4_2 x5_2 true) else (hibernacleref01_Int.j3 kj5 a0 x4_2 x5_2 (decide ((bt a0 x5_2) > 57)))) else (none)) else (none)) = some (r1, r2) := by rw [if_neg (show ¬ (false = true) by decide)] at H; exact H
                    clear H
                    have H := H1
                    clear H1
                    have HC11 := Aside0.mk H
                    clear H
                    go_upto_region 8 with (fail)
                    go_cut [37] (fun v37 wc => ∃ (kq : Nat) (x37_10 : Bool), v37 = .bool x37_10 ∧ Aside0 (hibernacleref01_Int.j3 kq a0 x4_2 x5_2 x37_10 = some (r1, r2)) ∧ Aside0 (kq ≤ kj5) ∧ Aside0 (Below w.heap.size w wc))
                    case first =>
                      have H := HC11.out
                      clear HC11
                      by_cases c12 : 0 ≤ x5_2
                      · rw [if_pos c12] at H
                        have c12b0 : decide (0 ≤ x5_2) = true := decide_eq_true c12
                        clear c12
                        (first | rw [c12b0] | (simp only [i64_w, i32_w]; rw [c12b0]) | skip)
                        by_cases c13 : x5_2 < (a0.size : Int)
                        · rw [if_pos c13] at H
                          have c13b0 : decide (x5_2 < (a0.size : Int)) = true := decide_eq_true c13
                          clear c13
                          by_cases c15 : (bt a0 x5_2) < 48
                          · rw [if_pos c15] at H
                            have c15b0 : decide ((bt a0 x5_2) < 48) = true := decide_eq_true c15
                            clear c15
                            have H' := Aside0.mk H
                            clear H
                            have p14 : 0 ≤ (x5_2 : Int) := of_decide_eq_true (by first | (with_reducible assumption) | assumption)
                            have q14 : x5_2 < (a0.size : Int) := of_decide_eq_true (by first | (with_reducible assumption) | assumption)
                            have hx14 := bt_at a0 x5_2
                            replace p14 := eq_true p14
                            replace q14 := eq_true q14
                            go_wp2
                            go_meet
                            case rel => exact ⟨_, (true), (by first | rfl | (simp; done) | (simp [*]; done)), H', ⟨by have := HJ1.out; have := HK2.out; have := HJ5.out; first | omega | exact Nat.le_refl _⟩, ⟨by repeat (first | (with_reducible first | exact HB.out | apply below_alloc | apply pw_below_drewN | apply below_drew1) | exact HB.out)⟩⟩
                          · rw [if_neg c15] at H
                            have c15b0 : decide ((bt a0 x5_2) < 48) = false := decide_eq_false c15
                            clear c15
                            have H' := Aside0.mk H
                            clear H
                            have p14 : 0 ≤ (x5_2 : Int) := of_decide_eq_true (by first | (with_reducible assumption) | assumption)
                            have q14 : x5_2 < (a0.size : Int) := of_decide_eq_true (by first | (with_reducible assumption) | assumption)
                            have hx14 := bt_at a0 x5_2
                            replace p14 := eq_true p14
                            replace q14 := eq_true q14
                            have p16 : 0 ≤ (x5_2 : Int) := of_decide_eq_true (by first | (with_reducible assumption) | assumption)
                            have q16 : x5_2 < (a0.size : Int) := of_decide_eq_true (by first | (with_reducible assumption) | assumption)
                            have hx16 := bt_at a0 x5_2
                            replace p16 := eq_true p16
                            replace q16 := eq_true q16
                            go_wp2
                            go_meet
                            case rel => exact ⟨_, (decide ((bt a0 x5_2) > 57)), (by first | rfl | (simp; done) | (simp [*]; done)), H', ⟨by have := HJ1.out; have := HK2.out; have := HJ5.out; first | omega | exact Nat.le_refl _⟩, ⟨by repeat (first | (with_reducible first | exact HB.out | apply below_alloc | apply pw_below_drewN | apply below_drew1) | exact HB.out)⟩⟩
                        · rw [if_neg c13] at H
                          exact absurd H (by simp)
                      · rw [if_neg c12] at H
                        exact absurd H (by simp)
                    case rest =>
                      clear HC11
                      try clear c1
                      try clear p1
                      try clear q1
                      try clear hx1
                      try clear p2
                      try clear c3
                      try clear c3b0
                      try clear c3b1
                      try clear c4
                      try clear c5
                      try clear c5b0
                      try clear c6
                      try clear p6
                      try clear c7
                      try clear c7b0
                      try clear p8
                      try clear q8
                      try clear hx8
                      try clear c9
                      try clear c9b0
                      try clear c9b1
                      try clear c10
                      try clear c12
                      try clear c12b0
                      try clear c13
                      try clear c13b0
                      try clear p14
                      try clear q14
                      try clear hx14
                      try clear c15
                      try clear c15b0
                      try clear p16
                      try clear q16
                      try clear hx16
                      try clear p14
                      try clear p16
                      try clear p2
                      try clear p8
                      try clear q14
                      try clear q16
                      try clear q8
                      obtain ⟨kq, x37_10, rfl, HA, HJ10, HB⟩ := hcut
                      cases kq with
                      | zero => exact absurd HA.out (by simp [hibernacleref01_Int.j3])
                      | succ kj10 =>
                        have H := HA.out
                        clear HA
                        simp only [hibernacleref01_Int.j3] at H
                        by_cases c17 : x37_10 = true
                        · subst c17
                          have H1 : (some (0, false)) = some (r1, r2) := by rw [if_pos rfl] at H; exact H
                          clear H
                          have H := H1
                          clear H1
                          simp only [Option.some.injEq, Prod.mk.injEq] at H
                          obtain ⟨rfl, rfl⟩ := H
                          go_wp2
                          go_ret2
                          exact ⟨by first | rfl | (simp [errW_none, errW_some] <;> rfl) | (simp [*, errW_none, errW_some] <;> rfl), by repeat (first | (with_reducible first | exact HB.out | apply below_alloc | apply pw_below_drewN | apply below_drew1) | exact HB.out)⟩
                        · replace c17 := Bool.eq_false_iff.mpr c17
                          subst c17
                          have H1 : (if 0 < (a0.size : Int) then (if (bt a0 0) = 45 then (if 0 ≤ x5_2 then (if x5_2 < (a0.size : Int) then (hibernacleref01_Int.l0 kj10 a0 (wrap64 ((wrap64 (x4_2 * 10)) - (((bt a0 x5_2) - 48) % 256))) (wrap64 (x5_2 + 1))) else (none)) else (none)) else (if 0 ≤ x5_2 then (if x5_2 < (a0.size : Int) then (hibernacleref01_Int.l0 kj10 a0 (wrap64 ((wrap64 (x4_2 * 10)) + (((bt a0 x5_2) - 48) % 256))) (wrap64 (x5_2 + 1))) else (none)) else (none))) else (none)) = some (r1, r2) := by rw [if_neg (show ¬ (false = true) by decide)] at H; exact H
                          clear H
                          have H := H1
                          clear H1
                          by_cases c18 : 0 < (a0.size : Int)
                          · rw [if_pos c18] at H
                            have c18b0 : decide (0 < (a0.size : Int)) = true := decide_eq_true c18
                            have c18b1 : decide (0 < a0.size) = true := decide_eq_true (by omega)
                            clear c18
                            by_cases c20 : (bt a0 0) = 45
                            · rw [if_pos c20] at H
                              have c20b0 : ((bt a0 0) == 45) = true := beq_iff_eq.mpr c20
                              have c20b1 : ((bt a0 0) != 45) = false := bne_eq_false_iff_eq.mpr c20
                              clear c20
                              by_cases c21 : 0 ≤ x5_2
                              · rw [if_pos c21] at H
                                have c21b0 : decide (0 ≤ x5_2) = true := decide_eq_true c21
                                clear c21
                                by_cases c22 : x5_2 < (a0.size : Int)
                                · rw [if_pos c22] at H
                                  have c22b0 : decide (x5_2 < (a0.size : Int)) = true := decide_eq_true c22
                                  clear c22
                                  have H' := Aside0.mk H
                                  clear H
                                  have p19 : 0 ≤ (0 : Int) := (by omega)
                                  have q19 : 0 < a0.size := (by have : (0 : Int) < (a0.size : Int) := of_decide_eq_true (by first | (with_reducible assumption) | assumption); omega)
                                  have hx19 : ∀ h : 0 < a0.size, ((a0[0]'h).toNat : Int) = bt a0 0 := bt_at a0 0
                                  clear p19
                                  have qi19 : (0 < (a0.size : Int)) = True := eq_true (of_decide_eq_true (by first | (with_reducible assumption) | assumption))
                                  replace q19 := eq_true q19
                                  have p23 : 0 ≤ (x5_2 : Int) := of_decide_eq_true (by first | (with_reducible assumption) | assumption)
                                  have q23 : x5_2 < (a0.size : Int) := of_decide_eq_true (by first | (with_reducible assumption) | assumption)
                                  have hx23 := bt_at a0 x5_2
                                  replace p23 := eq_true p23
                                  replace q23 := eq_true q23
                                  go_wp2
                                  go_roundg kj10
                                  case measure => have := HJ1.out; have := HK2.out; have := HJ5.out; have := HJ10.out; omega
                                  case rel => exact ⟨(wrap64 ((wrap64 (x4_2 * 10)) - (((bt a0 x5_2) - 48) % 256))), (wrap64 (x5_2 + 1)), (by first | rfl | (simp; done) | (simp [*]; done)), (by first | rfl | (simp; done) | (simp [*]; done)), H', ⟨by have := HJ1.out; have := HK2.out; have := HJ5.out; have := HJ10.out; omega⟩, ⟨by repeat (first | (with_reducible first | exact HB.out | apply below_alloc | apply pw_below_drewN | apply below_drew1) | exact HB.out)⟩⟩
                                · rw [if_neg c22] at H
                                  exact absurd H (by simp)
                              · rw [if_neg c21] at H
                                exact absurd H (by simp)
                            · rw [if_neg c20] at H
                              have c20b0 : ((bt a0 0) == 45) = false := beq_eq_false_iff_ne.mpr c20
                              have c20b1 : ((bt a0 0) != 45) = true := bne_iff_ne.mpr c20
                              by_cases c24 : 0 ≤ x5_2
                              · rw [if_pos c24] at H
                                have c24b0 : decide (0 ≤ x5_2) = true := decide_eq_true c24
                                clear c24
                                by_cases c25 : x5_2 < (a0.size : Int)
                                · rw [if_pos c25] at H
                                  have c25b0 : decide (x5_2 < (a0.size : Int)) = true := decide_eq_true c25
                                  clear c25
                                  have H' := Aside0.mk H
                                  clear H
                                  have p19 : 0 ≤ (0 : Int) := (by omega)
                                  have q19 : 0 < a0.size := (by have : (0 : Int) < (a0.size : Int) := of_decide_eq_true (by first | (with_reducible assumption) | assumption); omega)
                                  have hx19 : ∀ h : 0 < a0.size, ((a0[0]'h).toNat : Int) = bt a0 0 := bt_at a0 0
                                  clear p19
                                  have qi19 : (0 < (a0.size : Int)) = True := eq_true (of_decide_eq_true (by first | (with_reducible assumption) | assumption))
                                  replace q19 := eq_true q19
                                  have p26 : 0 ≤ (x5_2 : Int) := of_decide_eq_true (by first | (with_reducible assumption) | assumption)
                                  have q26 : x5_2 < (a0.size : Int) := of_decide_eq_true (by first | (with_reducible assumption) | assumption)
                                  have hx26 := bt_at a0 x5_2
                                  replace p26 := eq_true p26
                                  replace q26 := eq_true q26
                                  go_wp2
                                  go_roundg kj10
                                  case measure => have := HJ1.out; have := HK2.out; have := HJ5.out; have := HJ10.out; omega
                                  case rel => exact ⟨(wrap64 ((wrap64 (x4_2 * 10)) + (((bt a0 x5_2) - 48) % 256))), (wrap64 (x5_2 + 1)), (by first | rfl | (simp; done) | (simp [*]; done)), (by first | rfl | (simp; done) | (simp [*]; done)), H', ⟨by have := HJ1.out; have := HK2.out; have := HJ5.out; have := HJ10.out; omega⟩, ⟨by repeat (first | (with_reducible first | exact HB.out | apply below_alloc | apply pw_below_drewN | apply below_drew1) | exact HB.out)⟩⟩
                                · rw [if_neg c25] at H
                                  exact absurd H (by simp)
                              · rw [if_neg c24] at H
                                exact absurd H (by simp)
                          · rw [if_neg c18] at H
                            exact absurd H (by simp)
            · rw [if_neg c5] at H
              have c5b0 : decide (x5_2 < (a0.size : Int)) = false := decide_eq_false c5
              clear c5
              replace H := Option.bind_eq_some_iff.mp H
              obtain ⟨t173, A270, H⟩ := H
              replace H : (if t173.toList = a0.toList then (some (x4_2, true)) else (some (0, false))) = some (r1, r2) := H
              have A27 := Aside0.mk A270
              clear A270
              by_cases c28 : t173.toList = a0.toList
              · rw [if_pos c28] at H
                have c28b0 : (t173.toList == a0.toList) = true := beq_iff_eq.mpr c28
                have c28b1 : (t173.toList != a0.toList) = false := bne_eq_false_iff_eq.mpr c28
                clear c28
                simp only [Option.some.injEq, Prod.mk.injEq] at H
                obtain ⟨rfl, rfl⟩ := H
                go_wp2_with (first | ((with_reducible refine gate_callee (f := 8) rfl ?_); refine goesL_ (some 58) rfl rfl Tryd.func8 (by kernel_rfl) rfl #[.int .i64 x4_2] rfl (by (try simp only [List.map_toArray, List.map_cons, List.map_nil]); first | done | rfl | (simp only [List.length_drop, List.length_take]; rfl)) ?_; (with_reducible refine (hibernacleref01_Dec.calls k2 x4_2 t173 _ A27.out).mono ?_); rintro e w29 ⟨rfl, hb⟩; refine ⟨_, rfl, ?_⟩; have n0_ := Aside0.mk (below_step (by repeat (first | (with_reducible first | exact HB.out | apply below_alloc | apply pw_below_drewN | apply below_drew1) | exact HB.out)) hb); clear HB; have HB := n0_; clear n0_; (try clear hb); (try clear hb2); (try clear hk); (try clear hi)))
                go_ret2
                exact ⟨by first | rfl | (simp [errW_none, errW_some] <;> rfl) | (simp [*, errW_none, errW_some] <;> rfl), by repeat (first | (with_reducible first | exact HB.out | apply below_alloc | apply pw_below_drewN | apply below_drew1) | exact HB.out)⟩
              · rw [if_neg c28] at H
                have c28b0 : (t173.toList == a0.toList) = false := beq_eq_false_iff_ne.mpr c28
                have c28b1 : (t173.toList != a0.toList) = true := bne_iff_ne.mpr c28
                simp only [Option.some.injEq, Prod.mk.injEq] at H
                obtain ⟨rfl, rfl⟩ := H
                go_wp2_with (first | ((with_reducible refine gate_callee (f := 8) rfl ?_); refine goesL_ (some 58) rfl rfl Tryd.func8 (by kernel_rfl) rfl #[.int .i64 x4_2] rfl (by (try simp only [List.map_toArray, List.map_cons, List.map_nil]); first | done | rfl | (simp only [List.length_drop, List.length_take]; rfl)) ?_; (with_reducible refine (hibernacleref01_Dec.calls k2 x4_2 t173 _ A27.out).mono ?_); rintro e w30 ⟨rfl, hb⟩; refine ⟨_, rfl, ?_⟩; have n0_ := Aside0.mk (below_step (by repeat (first | (with_reducible first | exact HB.out | apply below_alloc | apply pw_below_drewN | apply below_drew1) | exact HB.out)) hb); clear HB; have HB := n0_; clear n0_; (try clear hb); (try clear hb2); (try clear hk); (try clear hi)))
                go_ret2
                exact ⟨by first | rfl | (simp [errW_none, errW_some] <;> rfl) | (simp [*, errW_none, errW_some] <;> rfl), by repeat (first | (with_reducible first | exact HB.out | apply below_alloc | apply pw_below_drewN | apply below_drew1) | exact HB.out)⟩

end Go.Proofs.YtaimjdfeijgbmaaDoor.PNum
