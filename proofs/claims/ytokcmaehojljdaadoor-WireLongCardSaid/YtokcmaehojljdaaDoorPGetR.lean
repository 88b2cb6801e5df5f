import Derived.Test.YtokcmaehojljdaaDoorPGetx0
namespace Go.Proofs.YtokcmaehojljdaaDoor.PGet
open Go.RowKit Go.Proofs.YtokcmaehojljdaaDoorW.PrintWords Go.Proofs.YtokcmaehojljdaaDoorW.PrintLast Go.Proofs.YtokcmaehojljdaaDoorW.PrintMore
attribute [local go_sem] max2_int min2_int max_two min_two max_three min_three max_four min_four   -- for this text's walks alone
set_option linter.unusedVariables false
set_option linter.unusedSimpArgs false

/-! ### num_read: function 53 -/
mutual
def num_read.l0 : Nat → ByteArray → Int → Int → Int → Option (Int × Int × Int)
  | 0, _, _, _, _ => none
  | k + 1, x0, x2, x8, x9 => if x9 < x8 then (if 0 ≤ x9 then (if x9 < (x0.size : Int) then (if x9 = 3 then (num_read.j1 k x0 x2 x9 (wrap64 (bt x0 x9)) x8 x9 (decide ((wrap64 (bt x0 x9)) ≥ 128))) else (num_read.j1 k x0 x2 x9 (wrap64 (bt x0 x9)) x8 x9 false)) else (none)) else (none)) else (some (0, 0, 4))
def num_read.j1 : Nat → ByteArray → Int → Int → Int → Int → Int → Bool → Option (Int × Int × Int)
  | 0, _, _, _, _, _, _, _ => none
  | k + 1, x0, x2, x5, x6, x8, x9, x16 => if x16 = true then (num_read.j2 k x0 x2 x5 x6 x8 x9 x16) else (if x5 > 0 then (num_read.j2 k x0 x2 x5 x6 x8 x9 (x6 == 0)) else (num_read.j2 k x0 x2 x5 x6 x8 x9 false))
def num_read.j2 : Nat → ByteArray → Int → Int → Int → Int → Int → Bool → Option (Int × Int × Int)
  | 0, _, _, _, _, _, _, _ => none
  | k + 1, x0, x2, x5, x6, x8, x9, x16 => if x16 = true then (some (0, 0, 3)) else (if 0 ≤ (wrap64 (7 * x5)) then (if x6 < 128 then (some (wrap64 (x2 + (shl .i64 (Int.tmod x6 128) (wrap64 (7 * x5)))), wrap64 (x5 + 1), 0)) else (num_read.l0 k x0 (wrap64 (x2 + (shl .i64 (Int.tmod x6 128) (wrap64 (7 * x5))))) x8 (wrap64 (x9 + 1)))) else (none))
end
def num_read.f (k : Nat) (a0 : ByteArray) : Option (Int × Int × Int) := num_read.l0 k a0 0 (a0.size : Int) 0
theorem num_read.mono_l : ∀ k, (∀ y0 y1 y2 y3, LeO (num_read.l0 k y0 y1 y2 y3) (num_read.l0 (k + 1) y0 y1 y2 y3)) ∧ (∀ y0 y1 y2 y3 y4 y5 y6, LeO (num_read.j1 k y0 y1 y2 y3 y4 y5 y6) (num_read.j1 (k + 1) y0 y1 y2 y3 y4 y5 y6)) ∧ (∀ y0 y1 y2 y3 y4 y5 y6, LeO (num_read.j2 k y0 y1 y2 y3 y4 y5 y6) (num_read.j2 (k + 1) y0 y1 y2 y3 y4 y5 y6))
  | 0 => ⟨fun _ _ _ _ r h => by simp [num_read.l0] at h, fun _ _ _ _ _ _ _ r h => by simp [num_read.j1] at h, fun _ _ _ _ _ _ _ r h => by simp [num_read.j2] at h⟩
  | k + 1 => by
    obtain ⟨ih0, ih1, ih2⟩ := num_read.mono_l k
    refine ⟨?_, ?_, ?_⟩
    · intro y0 y1 y2 y3
      unfold num_read.l0
      repeat' first
      | (with_reducible exact ih0 _ _ _ _)
      | (with_reducible exact ih1 _ _ _ _ _ _ _)
      | (with_reducible exact ih2 _ _ _ _ _ _ _)
      | (with_reducible exact LeO.refl _)
      | (with_reducible exact LeO.none _)
      | (with_reducible refine LeO.ite ?_ ?_)
      | (with_reducible refine LeO.bind ?_ (fun _ => ?_))
      | exact ih0 _ _ _ _
      | exact ih1 _ _ _ _ _ _ _
      | exact ih2 _ _ _ _ _ _ _
      | exact LeO.none _
      | refine LeO.ite ?_ ?_
      | refine LeO.bind ?_ (fun _ => ?_)
    · intro y0 y1 y2 y3 y4 y5 y6
      unfold num_read.j1
      repeat' first
      | (with_reducible exact ih0 _ _ _ _)
      | (with_reducible exact ih1 _ _ _ _ _ _ _)
      | (with_reducible exact ih2 _ _ _ _ _ _ _)
      | (with_reducible exact LeO.refl _)
      | (with_reducible exact LeO.none _)
      | (with_reducible refine LeO.ite ?_ ?_)
      | (with_reducible refine LeO.bind ?_ (fun _ => ?_))
      | exact ih0 _ _ _ _
      | exact ih1 _ _ _ _ _ _ _
      | exact ih2 _ _ _ _ _ _ _
      | exact LeO.none _
      | refine LeO.ite ?_ ?_
      | refine LeO.bind ?_ (fun _ => ?_)
    · intro y0 y1 y2 y3 y4 y5 y6
      unfold num_read.j2
      repeat' first
      | (with_reducible exact ih0 _ _ _ _)
      | (with_reducible exact ih1 _ _ _ _ _ _ _)
      | (with_reducible exact ih2 _ _ _ _ _ _ _)
      | (with_reducible exact LeO.refl _)
      | (with_reducible exact LeO.none _)
      | (with_reducible refine LeO.ite ?_ ?_)
      | (with_reducible refine LeO.bind ?_ (fun _ => ?_))
      | exact ih0 _ _ _ _
      | exact ih1 _ _ _ _ _ _ _
      | exact ih2 _ _ _ _ _ _ _
      | exact LeO.none _
      | refine LeO.ite ?_ ?_
      | refine LeO.bind ?_ (fun _ => ?_)
theorem num_read.mono : ∀ a0 k, LeO (num_read.f k a0) (num_read.f (k + 1) a0) := by
  intro a0 k
  obtain ⟨ih0, ih1, ih2⟩ := num_read.mono_l k
  unfold num_read.f
  repeat' first
      | (with_reducible exact ih0 _ _ _ _)
      | (with_reducible exact ih1 _ _ _ _ _ _ _)
      | (with_reducible exact ih2 _ _ _ _ _ _ _)
      | (with_reducible exact LeO.refl _)
      | (with_reducible exact LeO.none _)
      | (with_reducible refine LeO.ite ?_ ?_)
      | (with_reducible refine LeO.bind ?_ (fun _ => ?_))
      | exact ih0 _ _ _ _
      | exact ih1 _ _ _ _ _ _ _
      | exact ih2 _ _ _ _ _ _ _
      | exact LeO.none _
      | refine LeO.ite ?_ ?_
      | refine LeO.bind ?_ (fun _ => ?_)
set_option maxHeartbeats 8000000 in
set_option maxRecDepth 100000 in
theorem num_read.calls (k : Nat) (a0 : ByteArray) (r1 : Int) (r2 : Int) (r3 : Int) (w : World) (h : num_read.f k a0 = some (r1, r2, r3)) :
    Calls Tryd.prog 53 #[.string a0] w fun e w' => e = .returned (.tuple #[.int .i64 r1, .int .i64 r2, .int .i64 r3]) ∧ Drawn0 w w' := by
  have H : (num_read.l0 k a0 0 (a0.size : Int) 0) = some (r1, r2, r3) := h
  clear h
  have H' := Aside0.mk H
  clear H
  go_enter Tryd.func53, Tryd.ntmps53
  go_wp2
  go_loopg [2, 9] k (fun kq v2 v9 w' => ∃ (x2_1 : Int) (x9_1 : Int), v2 = .int .i64 x2_1 ∧ v9 = .int .i64 x9_1 ∧ Aside0 (num_read.l0 kq a0 x2_1 (a0.size : Int) x9_1 = some (r1, r2, r3)) ∧ Aside0 (kq ≤ k) ∧ Drawn0 w w')
  case atStart => exact ⟨(0), (0), (by first | rfl | (simp; done) | (simp [*]; done)), (by first | rfl | (simp; done) | (simp [*]; done)), H', ⟨Nat.le_refl _⟩, by repeat (first | exact Drawn0.refl _ | apply Drawn0.step)⟩
  case round =>
    clear H'
    obtain ⟨x2_1, x9_1, rfl, rfl, HA, HK1, ⟨m1, rfl⟩⟩ := hrel
    cases gk with
    | zero => exact absurd HA.out (by simp [num_read.l0])
    | succ k1 =>
      have H := HA.out
      clear HA
      simp only [num_read.l0] at H
      by_cases c2 : x9_1 < (a0.size : Int)
      · rw [if_pos c2] at H
        have c2b0 : decide (x9_1 < (a0.size : Int)) = true := decide_eq_true c2
        clear c2
        by_cases c3 : 0 ≤ x9_1
        · rw [if_pos c3] at H
          have c3b0 : decide (0 ≤ x9_1) = true := decide_eq_true c3
          clear c3
          by_cases c4 : x9_1 < (a0.size : Int)
          · rw [if_pos c4] at H
            have c4b0 : decide (x9_1 < (a0.size : Int)) = true := decide_eq_true c4
            clear c4
            have HC6 := Aside0.mk H
            clear H
            have p5 : 0 ≤ (x9_1 : Int) := of_decide_eq_true (by first | (with_reducible assumption) | assumption)
            have q5 : x9_1 < (a0.size : Int) := of_decide_eq_true (by first | (with_reducible assumption) | assumption)
            have hx5 := bt_at a0 x9_1
            replace p5 := eq_true p5
            replace q5 := eq_true q5
            go_upto_region 5 with (fail)
            go_cut [16] (fun v16 wc => ∃ (kq : Nat) (x16_5 : Bool), v16 = .bool x16_5 ∧ Aside0 (num_read.j1 kq a0 x2_1 x9_1 (wrap64 (bt a0 x9_1)) (a0.size : Int) x9_1 x16_5 = some (r1, r2, r3)) ∧ Aside0 (kq ≤ k1) ∧ Drawn0 w wc)
            case first =>
              have H := HC6.out
              clear HC6
              by_cases c7 : x9_1 = 3
              · rw [if_pos c7] at H
                have c7b0 : (x9_1 == 3) = true := beq_iff_eq.mpr c7
                have c7b1 : (x9_1 != 3) = false := bne_eq_false_iff_eq.mpr c7
                clear c7
                (first | rw [c7b0] | (simp only [i64_w, i32_w]; rw [c7b0]) | skip)
                have H' := Aside0.mk H
                clear H
                go_wp2
                go_meet
                case rel => exact ⟨_, (decide ((wrap64 (bt a0 x9_1)) ≥ 128)), (by first | rfl | (simp; done) | (simp [*]; done)), H', ⟨by have := HK1.out; first | omega | exact Nat.le_refl _⟩, by repeat (first | exact Drawn0.refl _ | apply Drawn0.step)⟩
              · rw [if_neg c7] at H
                have c7b0 : (x9_1 == 3) = false := beq_eq_false_iff_ne.mpr c7
                have c7b1 : (x9_1 != 3) = true := bne_iff_ne.mpr c7
                (first | rw [c7b0] | (simp only [i64_w, i32_w]; rw [c7b0]) | skip)
                have H' := Aside0.mk H
                clear H
                go_wp2
                go_meet
                case rel => exact ⟨_, (false), (by first | rfl | (simp; done) | (simp [*]; done)), H', ⟨by have := HK1.out; first | omega | exact Nat.le_refl _⟩, by repeat (first | exact Drawn0.refl _ | apply Drawn0.step)⟩
            case rest =>
              clear HC6
              try clear c2
              try clear c2b0
              try clear p2
              try clear c3
              try clear c3b0
              try clear c4
              try clear c4b0
              try clear c5
              try clear p5
              try clear q5
              try clear hx5
              try clear p6
              try clear c7
              try clear c7b0
              try clear c7b1
              try clear p5
              try clear q5
              obtain ⟨kq, x16_5, rfl, HA, HJ5, ⟨mc5, rfl⟩⟩ := hcut
              cases kq with
              | zero => exact absurd HA.out (by simp [num_read.j1])
              | succ kj5 =>
                have H := HA.out
                clear HA
                simp only [num_read.j1] at H
                have HC8 := Aside0.mk H
                clear H
                go_upto_if 16 with (fail)
                go_cut [16] (fun v16 wc => ∃ (kq : Nat) (x16_7 : Bool), v16 = .bool x16_7 ∧ Aside0 (num_read.j2 kq a0 x2_1 x9_1 (wrap64 (bt a0 x9_1)) (a0.size : Int) x9_1 x16_7 = some (r1, r2, r3)) ∧ Aside0 (kq ≤ kj5) ∧ Drawn0 w wc)
                case first =>
                  have H := HC8.out
                  clear HC8
                  by_cases c9 : x16_5 = true
                  · subst c9
                    have H1 : (num_read.j2 kj5 a0 x2_1 x9_1 (wrap64 (bt a0 x9_1)) (a0.size : Int) x9_1 true) = some (r1, r2, r3) := by rw [if_pos rfl] at H; exact H
                    clear H
                    have H := H1
                    clear H1
                    have H' := Aside0.mk H
                    clear H
                    go_wp2
                    go_meet
                    case rel => exact ⟨_, (true), (by first | rfl | (simp; done) | (simp [*]; done)), H', ⟨by have := HK1.out; have := HJ5.out; first | omega | exact Nat.le_refl _⟩, by repeat (first | exact Drawn0.refl _ | apply Drawn0.step)⟩
                  · replace c9 := Bool.eq_false_iff.mpr c9
                    subst c9
                    have H1 : (if x9_1 > 0 then (num_read.j2 kj5 a0 x2_1 x9_1 (wrap64 (bt a0 x9_1)) (a0.size : Int) x9_1 ((wrap64 (bt a0 x9_1)) == 0)) else (num_read.j2 kj5 a0 x2_1 x9_1 (wrap64 (bt a0 x9_1)) (a0.size : Int) x9_1 false)) = some (r1, r2, r3) := by rw [if_neg (show ¬ (false = true) by decide)] at H; exact H
                    clear H
                    have H := H1
                    clear H1
                    by_cases c10 : x9_1 > 0
                    · rw [if_pos c10] at H
                      have c10b0 : decide (0 < x9_1) = true := decide_eq_true c10
                      clear c10
                      (first | rw [c10b0] | (simp only [i64_w, i32_w]; rw [c10b0]) | skip)
                      have H' := Aside0.mk H
                      clear H
                      go_wp2
                      go_meet
                      case rel => exact ⟨_, (((wrap64 (bt a0 x9_1)) == 0)), (by first | rfl | (simp; done) | (simp [*]; done)), H', ⟨by have := HK1.out; have := HJ5.out; first | omega | exact Nat.le_refl _⟩, by repeat (first | exact Drawn0.refl _ | apply Drawn0.step)⟩
                    · rw [if_neg c10] at H
                      have c10b0 : decide (0 < x9_1) = false := decide_eq_false c10
                      clear c10
                      (first | rw [c10b0] | (simp only [i64_w, i32_w]; rw [c10b0]) | skip)
                      have H' := Aside0.mk H
                      clear H
                      go_wp2
                      go_meet
                      case rel => exact ⟨_, (false), (by first | rfl | (simp; done) | (simp [*]; done)), H', ⟨by have := HK1.out; have := HJ5.out; first | omega | exact Nat.le_refl _⟩, by repeat (first | exact Drawn0.refl _ | apply Drawn0.step)⟩
                case rest =>
                  clear HC8
                  try clear c1
                  try clear c2
                  try clear c2b0
                  try clear p2
                  try clear c3
                  try clear c3b0
                  try clear c4
                  try clear c4b0
                  try clear c5
                  try clear p5
                  try clear q5
                  try clear hx5
                  try clear p6
                  try clear c7
                  try clear c7b0
                  try clear c7b1
                  try clear c9
                  try clear c10
                  try clear c10b0
                  try clear p2
                  try clear p5
                  try clear p6
                  try clear q5
                  obtain ⟨kq, x16_7, rfl, HA, HJ7, ⟨mc7, rfl⟩⟩ := hcut
                  cases kq with
                  | zero => exact absurd HA.out (by simp [num_read.j2])
                  | succ kj7 =>
                    have H := HA.out
                    clear HA
                    simp only [num_read.j2] at H
                    by_cases c11 : x16_7 = true
                    · subst c11
                      have H1 : (some (0, 0, 3)) = some (r1, r2, r3) := by rw [if_pos rfl] at H; exact H
                      clear H
                      have H := H1
                      clear H1
                      simp only [Option.some.injEq, Prod.mk.injEq] at H
                      obtain ⟨rfl, rfl, rfl⟩ := H
                      go_wp2
                      go_ret3
                      exact ⟨by first | rfl | (simp; done) | (simp [*]; done), by repeat (first | exact Drawn0.refl _ | apply Drawn0.step)⟩
                    · replace c11 := Bool.eq_false_iff.mpr c11
                      subst c11
                      have H1 : (if 0 ≤ (wrap64 (7 * x9_1)) then (if (wrap64 (bt a0 x9_1)) < 128 then (some (wrap64 (x2_1 + (shl .i64 (Int.tmod (wrap64 (bt a0 x9_1)) 128) (wrap64 (7 * x9_1)))), wrap64 (x9_1 + 1), 0)) else (num_read.l0 kj7 a0 (wrap64 (x2_1 + (shl .i64 (Int.tmod (wrap64 (bt a0 x9_1)) 128) (wrap64 (7 * x9_1))))) (a0.size : Int) (wrap64 (x9_1 + 1)))) else (none)) = some (r1, r2, r3) := by rw [if_neg (show ¬ (false = true) by decide)] at H; exact H
                      clear H
                      have H := H1
                      clear H1
                      obtain ⟨ji12, hji12⟩ : ∃ j_ : Int, (wrap64 (7 * x9_1)) = j_ := ⟨_, rfl⟩
                      replace H : (if 0 ≤ (ji12) then (if (wrap64 (bt a0 x9_1)) < 128 then (some (wrap64 (x2_1 + (shl .i64 (Int.tmod (wrap64 (bt a0 x9_1)) 128) (ji12))), wrap64 (x9_1 + 1), 0)) else (num_read.l0 kj7 a0 (wrap64 (x2_1 + (shl .i64 (Int.tmod (wrap64 (bt a0 x9_1)) 128) (ji12)))) (a0.size : Int) (wrap64 (x9_1 + 1)))) else (none)) = some (r1, r2, r3) := by first | (rw [hji12] at H; exact H) | (simp only [hji12] at H ⊢; exact H)
                      have hji12w : (IntKind.i64.wrap (7 * x9_1)) = ji12 := (i64_w _).trans hji12
                      by_cases c13 : 0 ≤ (ji12)
                      · rw [if_pos c13] at H
                        have c13b0 := eq_true c13
                        have c13b1 : decide (0 ≤ (ji12)) = true := decide_eq_true c13
                        clear c13
                        obtain ⟨ji14, hji14⟩ : ∃ j_ : Int, (shl .i64 (Int.tmod (wrap64 (bt a0 x9_1)) 128) (ji12)) = j_ := ⟨_, rfl⟩
                        replace H : (if (wrap64 (bt a0 x9_1)) < 128 then (some (wrap64 (x2_1 + (ji14)), wrap64 (x9_1 + 1), 0)) else (num_read.l0 kj7 a0 (wrap64 (x2_1 + (ji14))) (a0.size : Int) (wrap64 (x9_1 + 1)))) = some (r1, r2, r3) := by first | (rw [hji14] at H; exact H) | (simp only [hji14] at H ⊢; exact H)
                        have hji14_ : (IntKind.i64.wrap ((Int.tmod (wrap64 (bt a0 x9_1)) 128) * 2 ^ min (ji12).toNat 64)) = ji14 := hji14
                        have hji14z : (ji12) ≤ 64 → (IntKind.i64.wrap ((Int.tmod (wrap64 (bt a0 x9_1)) 128) * 2 ^ (ji12).toNat)) = ji14 := shl_small hji14
                        have hji14y : (wrap64 ((Int.tmod (wrap64 (bt a0 x9_1)) 128) * 2 ^ min (ji12).toNat 64)) = ji14 := (i64_w _).symm.trans hji14_
                        have hji14x : (ji12) ≤ 64 → (wrap64 ((Int.tmod (wrap64 (bt a0 x9_1)) 128) * 2 ^ (ji12).toNat)) = ji14 := fun h_ => (i64_w _).symm.trans (hji14z h_)
                        by_cases c15 : (wrap64 (bt a0 x9_1)) < 128
                        · rw [if_pos c15] at H
                          have c15b0 : decide ((wrap64 (bt a0 x9_1)) < 128) = true := decide_eq_true c15
                          clear c15
                          simp only [Option.some.injEq, Prod.mk.injEq] at H
                          obtain ⟨rfl, rfl, rfl⟩ := H
                          go_wp2
                          go_ret3
                          exact ⟨by first | rfl | (simp; done) | (simp only [← hji12, ← hji14] <;> (first | rfl | simp)) | (simp [*]; done), by repeat (first | exact Drawn0.refl _ | apply Drawn0.step)⟩
                        · rw [if_neg c15] at H
                          have c15b0 : decide ((wrap64 (bt a0 x9_1)) < 128) = false := decide_eq_false c15
                          clear c15
                          have H' := Aside0.mk H
                          clear H
                          go_wp2
                          go_roundg kj7
                          case measure => have := HK1.out; have := HJ5.out; have := HJ7.out; omega
                          case rel => exact ⟨(wrap64 (x2_1 + (ji14))), (wrap64 (x9_1 + 1)), (by first | rfl | (simp; done) | (simp only [← hji14] <;> (first | rfl | simp)) | (simp [*]; done)), (by first | rfl | (simp; done) | (simp [*]; done)), H', ⟨by have := HK1.out; have := HJ5.out; have := HJ7.out; omega⟩, by repeat (first | exact Drawn0.refl _ | apply Drawn0.step)⟩
                      · rw [if_neg c13] at H
                        exact absurd H (by simp)
          · rw [if_neg c4] at H
            exact absurd H (by simp)
        · rw [if_neg c3] at H
          exact absurd H (by simp)
      · rw [if_neg c2] at H
        have c2b0 : decide (x9_1 < (a0.size : Int)) = false := decide_eq_false c2
        clear c2
        simp only [Option.some.injEq, Prod.mk.injEq] at H
        obtain ⟨rfl, rfl, rfl⟩ := H
        go_wp2
        go_ret3
        exact ⟨by first | rfl | (simp; done) | (simp [*]; done), by repeat (first | exact Drawn0.refl _ | apply Drawn0.step)⟩

/-! ### num_Texts: function 29 -/
def num_Texts.l0 : Nat → ByteArray → List ByteArray → Option (List ByteArray × Int)
  | 0, _, _ => none
  | k + 1, x0, x4 => if x0.toList = ([] : List UInt8) then (some (x4, 0)) else ((num_read.f k x0).bind fun bt133 => (if bt133.2.2 = 0 then (if (wrap64 ((x0.size : Int) - bt133.2.1)) < bt133.1 then (some (([] : List ByteArray), 4)) else (if 0 ≤ bt133.2.1 then (if bt133.2.1 ≤ (wrap64 (bt133.2.1 + bt133.1)) then (if (wrap64 (bt133.2.1 + bt133.1)) ≤ (x0.size : Int) then (if x4.length < 8796093022208 then (if 0 ≤ (wrap64 (bt133.2.1 + bt133.1)) then (num_Texts.l0 k (x0.extract ((wrap64 (bt133.2.1 + bt133.1)) : Int).toNat x0.size) (x4 ++ [x0.extract (bt133.2.1 : Int).toNat ((wrap64 (bt133.2.1 + bt133.1)) : Int).toNat])) else (none)) else (none)) else (none)) else (none)) else (none))) else (some (([] : List ByteArray), bt133.2.2))))
def num_Texts.f (k : Nat) (a0 : ByteArray) : Option (List ByteArray × Int) := num_Texts.l0 k a0 ([] : List ByteArray)
theorem num_Texts.mono_l : ∀ k, (∀ y0 y1, LeO (num_Texts.l0 k y0 y1) (num_Texts.l0 (k + 1) y0 y1))
  | 0 => fun _ _ r h => by simp [num_Texts.l0] at h
  | k + 1 => by
    have ih0 := num_Texts.mono_l k
    · intro y0 y1
      unfold num_Texts.l0
      repeat' first
      | (with_reducible exact ih0 _ _)
      | (with_reducible exact num_read.mono _ _)
      | (with_reducible exact LeO.refl _)
      | (with_reducible exact LeO.none _)
      | (with_reducible refine LeO.ite ?_ ?_)
      | (with_reducible refine LeO.bind ?_ (fun _ => ?_))
      | exact ih0 _ _
      | exact num_read.mono _ _
      | exact LeO.none _
      | refine LeO.ite ?_ ?_
      | refine LeO.bind ?_ (fun _ => ?_)
theorem num_Texts.mono : ∀ a0 k, LeO (num_Texts.f k a0) (num_Texts.f (k + 1) a0) := by
  intro a0 k
  have ih0 := num_Texts.mono_l k
  unfold num_Texts.f
  repeat' first
      | (with_reducible exact ih0 _ _)
      | (with_reducible exact num_read.mono _ _)
      | (with_reducible exact LeO.refl _)
      | (with_reducible exact LeO.none _)
      | (with_reducible refine LeO.ite ?_ ?_)
      | (with_reducible refine LeO.bind ?_ (fun _ => ?_))
      | exact ih0 _ _
      | exact num_read.mono _ _
      | exact LeO.none _
      | refine LeO.ite ?_ ?_
      | refine LeO.bind ?_ (fun _ => ?_)
set_option maxHeartbeats 8000000 in
set_option maxRecDepth 100000 in
theorem num_Texts.calls (k : Nat) (a0 : ByteArray) (r1 : List ByteArray) (r2 : Int) (w : World) (h : num_Texts.f k a0 = some (r1, r2)) :
    Calls Tryd.prog 29 #[.string a0] w fun e w' => ∃ v0_ : Value, e = .returned (.tuple #[v0_, .int .i64 r2]) ∧ Kd.R Kd.string 9 w' w.heap.size (fun _ => True) v0_ r1 ∧ Below w.heap.size w w' := by
  have HB := Aside0.mk (Below.refl w.heap.size w)
  have H : (num_Texts.l0 k a0 ([] : List ByteArray)) = some (r1, r2) := h
  clear h
  have H' := Aside0.mk H
  clear H
  go_enter Tryd.func29, Tryd.ntmps29
  go_wp2
  go_loopg [0, 4] k (fun kq v0 v4 w' => ∃ (x0_1 : ByteArray) (x4_1 : List ByteArray), v0 = .string x0_1 ∧ Aside0 (num_Texts.l0 kq x0_1 x4_1 = some (r1, r2)) ∧ Aside0 (kq ≤ k) ∧ Aside0 (Kd.R Kd.string 9 w' w.heap.size (fun _ => True) v4 x4_1) ∧ Aside0 (Below w.heap.size w w'))
  case atStart => exact ⟨(a0), (([] : List ByteArray)), (by first | rfl | (simp; done) | (simp [*]; done)), H', ⟨Nat.le_refl _⟩, ⟨by first | exact Kd.R_nil _ _ _ _ _ | exact Kd.N_nil _ _ _ _ _ | exact Kd.V_nil _ _ _ _ _ | exact Kd.Q_nil _ _ _ _ _ | exact Kd.S_nil _ _ _ _ _⟩, ⟨by repeat (first | (with_reducible first | exact HB.out | apply below_alloc | apply pw_below_drewN | apply below_drew1) | exact HB.out)⟩⟩
  case round =>
    clear H'
    obtain ⟨x0_1, x4_1, rfl, HA, HK1, HO_4, HB⟩ := hrel
    cases gk with
    | zero => exact absurd HA.out (by simp [num_Texts.l0])
    | succ k1 =>
      have H := HA.out
      clear HA
      simp only [num_Texts.l0] at H
      by_cases c2 : x0_1.toList = ([] : List UInt8)
      · rw [if_pos c2] at H
        have c2b0 : (x0_1.toList == ([] : List UInt8)) = true := beq_iff_eq.mpr c2
        have c2b1 : (x0_1.toList != ([] : List UInt8)) = false := bne_eq_false_iff_eq.mpr c2
        clear c2
        simp only [Option.some.injEq, Prod.mk.injEq] at H
        obtain ⟨rfl, rfl⟩ := H
        go_wp2
        go_ret2
        exact ⟨_, by first | rfl | (simp [errW_none, errW_some] <;> rfl) | (simp [*, errW_none, errW_some] <;> rfl), by (with_reducible repeat (first | apply Kd.R_alloc | apply Kd.R_drewN | apply Kd.R_drew)); exact HO_4.out, by repeat (first | (with_reducible first | exact HB.out | apply below_alloc | apply pw_below_drewN | apply below_drew1) | exact HB.out)⟩
      · rw [if_neg c2] at H
        have c2b0 : (x0_1.toList == ([] : List UInt8)) = false := beq_eq_false_iff_ne.mpr c2
        have c2b1 : (x0_1.toList != ([] : List UInt8)) = true := bne_iff_ne.mpr c2
        replace H := Option.bind_eq_some_iff.mp H
        obtain ⟨⟨t133, t134, t135⟩, A30, H⟩ := H
        replace H : (if t135 = 0 then (if (wrap64 ((x0_1.size : Int) - t134)) < t133 then (some (([] : List ByteArray), 4)) else (if 0 ≤ t134 then (if t134 ≤ (wrap64 (t134 + t133)) then (if (wrap64 (t134 + t133)) ≤ (x0_1.size : Int) then (if x4_1.length < 8796093022208 then (if 0 ≤ (wrap64 (t134 + t133)) then (num_Texts.l0 k1 (x0_1.extract ((wrap64 (t134 + t133)) : Int).toNat x0_1.size) (x4_1 ++ [x0_1.extract (t134 : Int).toNat ((wrap64 (t134 + t133)) : Int).toNat])) else (none)) else (none)) else (none)) else (none)) else (none))) else (some (([] : List ByteArray), t135))) = some (r1, r2) := H
        have A3 := Aside0.mk A30
        clear A30
        by_cases c4 : t135 = 0
        · rw [if_pos c4] at H
          have c4b0 : (t135 == 0) = true := beq_iff_eq.mpr c4
          have c4b1 : (t135 != 0) = false := bne_eq_false_iff_eq.mpr c4
          clear c4
          by_cases c5 : (wrap64 ((x0_1.size : Int) - t134)) < t133
          · rw [if_pos c5] at H
            have c5b0 : decide ((wrap64 ((x0_1.size : Int) - t134)) < t133) = true := decide_eq_true c5
            clear c5
            simp only [Option.some.injEq, Prod.mk.injEq] at H
            obtain ⟨rfl, rfl⟩ := H
            go_wp2_with (first | ((with_reducible refine gate_callee (f := 53) rfl ?_); refine goesL_ (some 12) rfl rfl Tryd.func53 (by kernel_rfl) rfl #[.string x0_1] rfl (by (try simp only [List.map_toArray, List.map_cons, List.map_nil]); first | done | rfl | (simp only [List.length_drop, List.length_take]; rfl)) ?_; (with_reducible refine (num_read.calls k1 x0_1 t133 t134 t135 _ A3.out).mono ?_); rintro e w' ⟨rfl, ⟨nd, rfl⟩⟩; refine ⟨_, rfl, ?_⟩))
            go_ret2
            exact ⟨_, by first | rfl | (simp [errW_none, errW_some] <;> rfl) | (simp [*, errW_none, errW_some] <;> rfl), by first | exact Kd.R_nil _ _ _ _ _ | exact Kd.N_nil _ _ _ _ _ | exact Kd.V_nil _ _ _ _ _ | exact Kd.Q_nil _ _ _ _ _ | exact Kd.S_nil _ _ _ _ _, by repeat (first | (with_reducible first | exact HB.out | apply below_alloc | apply pw_below_drewN | apply below_drew1) | exact HB.out)⟩
          · rw [if_neg c5] at H
            have c5b0 : decide ((wrap64 ((x0_1.size : Int) - t134)) < t133) = false := decide_eq_false c5
            clear c5
            by_cases c6 : 0 ≤ t134
            · rw [if_pos c6] at H
              have c6b0 := eq_true c6
              have c6b1 : decide (0 ≤ t134) = true := decide_eq_true c6
              clear c6
              by_cases c7 : t134 ≤ (wrap64 (t134 + t133))
              · rw [if_pos c7] at H
                have c7b0 := eq_true c7
                have c7b1 : decide (t134 ≤ (wrap64 (t134 + t133))) = true := decide_eq_true c7
                by_cases c8 : (wrap64 (t134 + t133)) ≤ (x0_1.size : Int)
                · rw [if_pos c8] at H
                  have c8b0 := eq_true c8
                  have c8b1 : decide ((wrap64 (t134 + t133)) ≤ (x0_1.size : Int)) = true := decide_eq_true c8
                  by_cases c9 : x4_1.length < 8796093022208
                  · rw [if_pos c9] at H
                    have LMc9 := Aside0.mk c9
                    clear c9
                    obtain ⟨y136, hy136⟩ : ∃ y_ : List ByteArray, y_ = (x4_1 ++ [x0_1.extract (t134 : Int).toNat ((wrap64 (t134 + t133)) : Int).toNat]) := ⟨_, rfl⟩
                    replace H : (if 0 ≤ (wrap64 (t134 + t133)) then (num_Texts.l0 k1 (x0_1.extract ((wrap64 (t134 + t133)) : Int).toNat x0_1.size) y136) else (none)) = some (r1, r2) := by first | (rw [hy136]; with_reducible exact H) | (have H2_ := (Option.bind_some _ _).symm.trans H; rw [hy136]; with_reducible exact H2_) | (have H2_ := (Option.bind_some _ _).symm.trans H; with_reducible exact H2_) | with_reducible exact H | (rw [hy136]; exact H) | exact H
                    have Ny136 := Aside0.mk hy136
                    clear hy136
                    obtain ⟨ji10, hji10⟩ : ∃ j_ : Int, (wrap64 (t134 + t133)) = j_ := ⟨_, rfl⟩
                    replace H : (if 0 ≤ (ji10) then (num_Texts.l0 k1 (x0_1.extract ((ji10) : Int).toNat x0_1.size) y136) else (none)) = some (r1, r2) := by first | (rw [hji10] at H; exact H) | (simp only [hji10] at H ⊢; exact H)
                    (try rw [hji10] at c7b0)
                    (try rw [hji10] at c7b1)
                    (try rw [hji10] at c7)
                    (try rw [hji10] at c8b0)
                    (try rw [hji10] at c8b1)
                    (try rw [hji10] at c8)
                    (try rw [hji10] at A3)
                    (try rw [hji10] at Ny136)
                    have hji10w : (IntKind.i64.wrap (t134 + t133)) = ji10 := (i64_w _).trans hji10
                    by_cases c11 : 0 ≤ (ji10)
                    · rw [if_pos c11] at H
                      have c11b0 := eq_true c11
                      have c11b1 : decide (0 ≤ (ji10)) = true := decide_eq_true c11
                      clear c11
                      have c12b0 := eq_true (of_decide_eq_true (by first | (with_reducible assumption) | assumption) : (ji10) ≤ (x0_1.size : Int))
                      have H' := Aside0.mk H
                      clear H
                      go_wp2_with (first | ((with_reducible refine gate_callee (f := 53) rfl ?_); refine goesL_ (some 12) rfl rfl Tryd.func53 (by kernel_rfl) rfl #[.string x0_1] rfl (by (try simp only [List.map_toArray, List.map_cons, List.map_nil]); first | done | rfl | (simp only [List.length_drop, List.length_take]; rfl)) ?_; (with_reducible refine (num_read.calls k1 x0_1 t133 t134 t135 _ A3.out).mono ?_); rintro e w' ⟨rfl, ⟨nd, rfl⟩⟩; refine ⟨_, rfl, ?_⟩) | ((with_reducible refine gate_builtin (b := .append) (xs := #[.tmp 27, .tmp 34]) rfl ?_); at_builtin; refine Kd.R_append Kd.string (w0 := w) w.heap.size rfl (.tmp 27) (.tmp 34) 23 9 (.string ⟨#[]⟩) 16 rfl Tryd.underlying23 info9 rfl (by decide) (by omega) u4 x4_1 (x0_1.extract (t134 : Int).toNat ((ji10) : Int).toNat) [.string (x0_1.extract (t134 : Int).toNat ((ji10) : Int).toNat)] (fun _ => True) (fun _ => False) rfl rfl ?aP (fun _ hk => hk.elim) ?aF ?aO ?aB ?aS ?aL ?_; (case aP => exact rfl); (case aB => exact (by repeat (first | (with_reducible first | exact HB.out | apply below_alloc | apply pw_below_drewN | apply below_drew1) | exact HB.out))); (case aF => exact (fun _ _ => trivial)); (case aO => exact (by (with_reducible repeat (first | apply Kd.R_alloc | apply Kd.R_drewN | apply Kd.R_drew)); exact HO_4.out)); (case aS => exact (below_size (by repeat (first | (with_reducible first | exact HB.out | apply below_alloc | apply pw_below_drewN | apply below_drew1) | exact HB.out)))); (case aL => have := LMc9.out; omega); intro v137 w13 ho hb hg hat; rw [← Ny136.out] at ho; have n0_ := Aside0.mk (hb); have n1_ := Aside0.mk (ho); clear HB; clear HO_4; have HB := n0_; have HO138 := n1_; clear n0_ n1_; clear ho hb hg hat))
                      go_roundg k1
                      case measure => have := HK1.out; omega
                      case rel => exact ⟨(x0_1.extract ((ji10) : Int).toNat x0_1.size), (y136), (by first | rfl | (simp; done) | (simp only [← hji10] <;> (first | rfl | simp)) | (simp [*]; done)), H', ⟨by have := HK1.out; omega⟩, ⟨by (with_reducible repeat (first | apply Kd.R_alloc | apply Kd.R_drewN | apply Kd.R_drew)); exact HO138.out⟩, ⟨by repeat (first | (with_reducible first | exact HB.out | apply below_alloc | apply pw_below_drewN | apply below_drew1) | exact HB.out)⟩⟩
                    · rw [if_neg c11] at H
                      exact absurd H (by simp)
                  · rw [if_neg c9] at H
                    exact absurd H (by simp)
                · rw [if_neg c8] at H
                  exact absurd H (by simp)
              · rw [if_neg c7] at H
                exact absurd H (by simp)
            · rw [if_neg c6] at H
              exact absurd H (by simp)
        · rw [if_neg c4] at H
          have c4b0 : (t135 == 0) = false := beq_eq_false_iff_ne.mpr c4
          have c4b1 : (t135 != 0) = true := bne_iff_ne.mpr c4
          simp only [Option.some.injEq, Prod.mk.injEq] at H
          obtain ⟨rfl, rfl⟩ := H
          go_wp2_with (first | ((with_reducible refine gate_callee (f := 53) rfl ?_); refine goesL_ (some 12) rfl rfl Tryd.func53 (by kernel_rfl) rfl #[.string x0_1] rfl (by (try simp only [List.map_toArray, List.map_cons, List.map_nil]); first | done | rfl | (simp only [List.length_drop, List.length_take]; rfl)) ?_; (with_reducible refine (num_read.calls k1 x0_1 t133 t134 t135 _ A3.out).mono ?_); rintro e w' ⟨rfl, ⟨nd, rfl⟩⟩; refine ⟨_, rfl, ?_⟩))
          go_ret2
          exact ⟨_, by first | rfl | (simp [errW_none, errW_some] <;> rfl) | (simp [*, errW_none, errW_some] <;> rfl), by first | exact Kd.R_nil _ _ _ _ _ | exact Kd.N_nil _ _ _ _ _ | exact Kd.V_nil _ _ _ _ _ | exact Kd.Q_nil _ _ _ _ _ | exact Kd.S_nil _ _ _ _ _, by repeat (first | (with_reducible first | exact HB.out | apply below_alloc | apply pw_below_drewN | apply below_drew1) | exact HB.out)⟩
end Go.Proofs.YtokcmaehojljdaaDoor.PGet
