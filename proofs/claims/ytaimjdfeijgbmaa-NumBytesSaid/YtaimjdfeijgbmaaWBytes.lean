/- The walk of NumBytes where all that it asks for holds. -/
import Derived.Test.YtaimjdfeijgbmaaPLawx6
namespace Go.Proofs.Ytaimjdfeijgbmaa
open Go.Proofs.Ytaimjdfeijgbmaa.PNum Go.RowKit Go.Proofs.YtaimjdfeijgbmaaW.PrintWords Go.Proofs.YtaimjdfeijgbmaaW.PrintLast Go.Proofs.YtaimjdfeijgbmaaW.PrintMore
open Go.Proofs.Ytaimjdfeijgbmaa.PLaw
attribute [local go_sem] max2_int min2_int max_two min_two max_three min_three max_four min_four
set_option maxHeartbeats 2000000 in
set_option maxRecDepth 100000 in
theorem bytes_walk (k : Nat) (a0 a1 g : Int) (a2 b p8 : ByteArray) (w : World) (hal : hibernaclelaw01_numAlive.f k = some true) (ha : a2.size ≤ 100)
    (h1 : num_Put.f k a0 a1 = some b) (h2 : hibernacleref01_Put.f k a0 a1 = some b) (h3 : num_Get.f k a2 = some g) (h4 : hibernacleref01_Get.f k a2 = some g)
    (h5 : num_Put.f k a0 8 = some p8) (h6 : num_Get.f k p8 = some a0) (h7 : p8.size = 8) (h8 : a2.size ≤ 8 → num_Put.f k g a2.size = some a2) :
    Calls Try.prog 7 #[.int .u64 a0, .int .i64 a1, .string a2] w fun e w' => e = .returned (.bool true) ∧ Below w.heap.size w w' := by
  have c1 : decide (100 < (a2.size : Int)) = false := decide_eq_false (by omega)
  have c2 : decide (100 < a2.size) = false := decide_eq_false (by omega)
  have A := Aside0.mk (show hibernaclelaw01_numAlive.f k = some true ∧ num_Put.f k a0 a1 = some b ∧ hibernacleref01_Put.f k a0 a1 = some b ∧ num_Get.f k a2 = some g ∧ hibernacleref01_Get.f k a2 = some g ∧ num_Put.f k a0 8 = some p8 ∧ num_Get.f k p8 = some a0 ∧ (a2.size ≤ 8 → num_Put.f k g a2.size = some a2) from ⟨hal, h1, h2, h3, h4, h5, h6, h8⟩)
  have c3 : (p8.size : Int) = 8 := by omega
  clear hal h1 h2 h3 h4 h5 h6 h7 h8
  go_enter Try.func7, Try.ntmps7
  go_wp2_with fail
  refine (hibernaclelaw01_numAlive.calls k true _ A.out.1).mono ?_
  rintro e w1 ⟨rfl, hb1⟩
  go_wp2_with fail
  refine (num_Put.calls k a0 a1 b _ A.out.2.1).mono ?_
  rintro e w2 ⟨rfl, hb2⟩
  replace hb2 := hb1.trans (hb2.mono hb1.size)
  go_wp2_with fail
  have d1 : (b.toList != b.toList) = false := bne_self_eq_false _
  have d2 : (g != g) = false := bne_self_eq_false _
  have d3 : (a0 != a0) = false := bne_self_eq_false _
  refine (hibernacleref01_Put.calls k a0 a1 b _ A.out.2.2.1).mono ?_
  rintro e w3 ⟨rfl, hb3⟩
  replace hb3 := hb2.trans (hb3.mono hb2.size)
  clear hb1 hb2
  go_wp2_with fail
  refine (num_Get.calls k a2 g _ A.out.2.2.2.1).mono ?_
  rintro e w4 ⟨rfl, hb4⟩
  replace hb4 := hb3.trans (hb4.mono hb3.size)
  clear hb3
  go_wp2_with fail
  refine (hibernacleref01_Get.calls k a2 g _ A.out.2.2.2.2.1).mono ?_
  rintro e w5' ⟨rfl, ⟨nd, rfl⟩⟩
  have hb5 := pw_below_drewN hb4 nd
  generalize w4.drewN nd = w5 at *
  clear hb4
  go_wp2_with fail
  refine (num_Put.calls k a0 8 p8 _ A.out.2.2.2.2.2.1).mono ?_
  rintro e w6 ⟨rfl, hb6⟩
  replace hb6 := hb5.trans (hb6.mono hb5.size)
  clear hb5
  go_wp2_with fail
  refine (num_Get.calls k p8 a0 _ A.out.2.2.2.2.2.2.1).mono ?_
  rintro e w7 ⟨rfl, hb7⟩
  replace hb7 := hb6.trans (hb7.mono hb6.size)
  clear hb6
  go_wp2_with fail
  refine (num_Put.calls k a0 8 p8 _ A.out.2.2.2.2.2.1).mono ?_
  rintro e w8 ⟨rfl, hb8⟩
  replace hb8 := hb7.trans (hb8.mono hb7.size)
  clear hb7
  by_cases hs : a2.size ≤ 8
  · have c4 : decide (8 < (a2.size : Int)) = false := decide_eq_false (by omega)
    have c5 : decide (8 < a2.size) = false := decide_eq_false (by omega)
    go_wp2_with fail
    refine (num_Get.calls k a2 g _ A.out.2.2.2.1).mono ?_
    rintro e w9 ⟨rfl, hb9⟩
    replace hb9 := hb8.trans (hb9.mono hb8.size)
    clear hb8
    go_wp2_with fail
    refine (num_Put.calls k g a2.size a2 _ (A.out.2.2.2.2.2.2.2 hs)).mono ?_
    rintro e w10 ⟨rfl, hb10⟩
    replace hb10 := hb9.trans (hb10.mono hb9.size)
    clear hb9
    go_wp2_with fail
    go_ret
    exact ⟨by simp, hb10⟩
  · have c4 : decide (8 < (a2.size : Int)) = true := decide_eq_true (by omega)
    have c5 : decide (8 < a2.size) = true := decide_eq_true (by omega)
    go_wp2_with fail
    go_ret
    exact ⟨rfl, hb8⟩
theorem bytes_walk_long (k : Nat) (a0 a1 : Int) (a2 : ByteArray) (w : World) (hal : hibernaclelaw01_numAlive.f k = some true) (ha : 100 < a2.size) :
    Calls Try.prog 7 #[.int .u64 a0, .int .i64 a1, .string a2] w fun e w' => e = .returned (.bool true) ∧ Below w.heap.size w w' := by
  have c1 : decide (100 < (a2.size : Int)) = true := decide_eq_true (by omega)
  have c2 : decide (100 < a2.size) = true := decide_eq_true (by omega)
  have A := Aside0.mk hal
  clear hal
  go_enter Try.func7, Try.ntmps7
  go_wp2_with fail
  refine (hibernaclelaw01_numAlive.calls k true _ A.out).mono ?_
  rintro e w1 ⟨rfl, hb1⟩
  go_wp2_with fail
  go_ret
  exact ⟨rfl, hb1⟩
end Go.Proofs.Ytaimjdfeijgbmaa
