/- The law's example, and 'Great': their walks. -/
import Derived.Test.YtokcmaehojljdaaDoorWPut
namespace Go.Proofs.YtokcmaehojljdaaDoor
open Go.RowKit Go.Shelf Go.Proofs.YtokcmaehojljdaaDoorW.PrintWords Go.Proofs.YtokcmaehojljdaaDoorW.PrintLast Go.Proofs.YtokcmaehojljdaaDoorW.PrintMore

def sn0 : Sn := ⟨⟨#[]⟩, 0, 0, 0, 0, 0, [], [], [], List.replicate 32 0⟩
def m6 : Ms := ⟨6, ⟨#[]⟩, sn0, 0, 0⟩
theorem texts_nil (w : World) : TextsAt w (.slice none 0 0) [] := ⟨none, 0, rfl, Nat.le_refl _, Kd.C_nil _ _, by simp, by simp⟩
theorem m6_ok (w : World) : MsOk w m6 (.slice none 0 0) (.slice none 0 0) (.slice none 0 0) :=
  ⟨⟨texts_nil w, texts_nil w, texts_nil w, by decide, by decide, by decide, by decide, by decide, by decide, by decide⟩, by decide, by decide, by decide, by decide⟩
theorem nil_list : (⟨#[]⟩ : ByteArray).toList = [] := by rw [ByteArray.toList_eq]
theorem m6_empty : emptyB sn0 = true := by
  simp [emptyB, sn0]
theorem m6_check : checkMs m6 = 0 := by
  have h1 : okKind 6 = true := by decide
  have h2 : goodHas m6 = true := by
    simp [goodHas, m6, m6_empty]
  unfold checkMs
  rw [if_neg (by show ¬ (okKind 6 = false); rw [h1]; decide), if_neg (by rw [h2]; decide), if_neg (by simp [m6]), if_neg (by simp [m6]), if_neg (by simp [m6])]
theorem dec_six : dec 6 = ⟨#[54]⟩ := by
  unfold dec Lib.itoa
  rw [if_neg (by decide), show (6 : Int).toNat = 6 from rfl, Lib.decDigits_one (by decide)]
  rfl
theorem m6_put : putMs m6 = ⟨(rowU [⟨#[54]⟩, ⟨#[]⟩]).toArray⟩ := by
  rw [putMs, if_pos m6_check]
  have e : loadMs m6 = ⟨#[]⟩ := by
    unfold loadMs
    rw [if_neg (by decide), if_neg (by decide), if_neg (by decide)]
    rfl
  rw [e, show m6.kind = 6 from rfl, dec_six]
theorem six_row : num_Row.f [⟨#[54]⟩, ⟨#[]⟩] = some ⟨(rowU [⟨#[54]⟩, ⟨#[]⟩]).toArray⟩ := by
  unfold num_Row.f
  have := rowU_bound 10 (by decide) [(⟨#[54]⟩ : ByteArray), ⟨#[]⟩] (by decide)
  rw [if_pos (by simp only [List.length_cons, List.length_nil] at this; omega)]
set_option maxHeartbeats 2000000 in
set_option maxRecDepth 100000 in
theorem awake_any (w : World) (hl : Laid w) : Calls Tryd.prog 9 #[] w fun e w' => e = .returned (.bool true) ∧ Below w.heap.size w w' := by
  have HP := Sec.mk (put_any m6 _ _ _ w (m6_ok w) hl)
  go_enter Tryd.func9, Tryd.ntmps9
  go_wp2_with fail
  refine HP.out.mono ?_
  rintro e w1 ⟨rfl, hb1⟩
  rw [m6_check, m6_put]
  have hR := R_new w1 0 (Nat.lt_of_lt_of_le hl.pos hb1.size) [⟨#[54]⟩, ⟨#[]⟩] (by simp)
  have hC := (Kd.R_reads' hR).2.2
  have HRR := Sec.mk (rfl : rowU [⟨#[54]⟩, ⟨#[]⟩] = rowU [⟨#[54]⟩, ⟨#[]⟩])
  have HS := Sec.mk six_row
  generalize rowU [⟨#[54]⟩, ⟨#[]⟩] = L at HS ⊢
  have hb2 := hb1.alloc hb1.size (.cells #[.string ⟨#[54]⟩, .string ⟨#[]⟩] 9)
  have hLL : ((⟨L.toArray⟩ : ByteArray).toList == (⟨L.toArray⟩ : ByteArray).toList) = true := beq_self_eq_true _
  go_wp2_with fail
  refine (num_Row.calls (some ⟨w1.heap.size, 0, none⟩) 2 [⟨#[54]⟩, ⟨#[]⟩] _ _ hC (by simp) HS.out).mono ?_
  rintro e w3 ⟨rfl, hb3⟩
  have hb4 := hb2.trans (hb3.mono hb2.size)
  go_wp2_with fail
  go_ret
  exact ⟨rfl, hb4⟩
theorem ms_list {w : World} {b : Nat} {m : Ms} {v : Nat → Value} (h : Row w b 31 (msL m (v 0) (v 1) (v 2)).toArray) (i : Nat) (hi : i < 3) : w.cell? ⟨b, 8 + i, none⟩ = some (v i) := by
  rw [h.at_ (8 + i)]
  have hc : i = 0 ∨ i = 1 ∨ i = 2 := by omega
  rcases hc with rfl | rfl | rfl <;> rfl
set_option maxHeartbeats 4000000 in
set_option maxRecDepth 100000 in
theorem great_any (m : Ms) (v0 v1 v2 : Value) (w : World) (h : MsOk w m v0 v1 v2) : Calls Tryd.prog 8 #[.agg (msL m v0 v1 v2).toArray] w fun e w' => (∃ r : Int, e = .returned (.int .i64 r)) ∧ Below w.heap.size w w' := by
  have hs := h.snap.hs
  have hms := h.snap.hm
  have hds := h.hd
  obtain ⟨A, c, rfl, rfl, rfl, hlst⟩ := lists_at h.snap
  have HL := Sec.mk hlst
  clear h hlst
  have hM := Row.new w (msL m (.slice (A 0) (lst m.snap 0).length (c 0)) (.slice (A 1) (lst m.snap 1).length (c 1)) (.slice (A 2) (lst m.snap 2).length (c 2))).toArray 31
  have hb0 := (Below.refl w.heap.size w).alloc (Nat.le_refl _) (.cells (msL m (.slice (A 0) (lst m.snap 0).length (c 0)) (.slice (A 1) (lst m.snap 1).length (c 1)) (.slice (A 2) (lst m.snap 2).length (c 2))).toArray 31)
  go_enter Tryd.func8, Tryd.ntmps8
  go_upto_region 1 with (fail)
  refine wp_abs (fun W HW => ?_)
  rw [← HW.out] at hM hb0
  clear HW
  obtain ⟨-, k1, -, -⟩ := ms_cells hM hs
  have k2 : W.cell? ⟨w.heap.size, 2, none⟩ = some (.string m.snap.mach) := hM.at_ 2
  go_wp2_with fail
  go_loopw [3, 4] (fun v3 v4 wr => ∃ (i : Nat) (x : Int), i ≤ 3 ∧ v4 = .int .i64 i ∧ v3 = .int .i64 x ∧ Row wr w.heap.size 31 (msL m (.slice (A 0) (lst m.snap 0).length (c 0)) (.slice (A 1) (lst m.snap 1).length (c 1)) (.slice (A 2) (lst m.snap 2).length (c 2))).toArray ∧ Below w.heap.size w wr) (fun _ v4 _ => 3 - (intOf v4).toNat)
  case atStart => exact ⟨0, _, by omega, rfl, rfl, hM, hb0⟩
  case round =>
    clear hM hb0 k1 k2
    obtain ⟨i, x, hi, rfl, rfl, hM, hb⟩ := hrel
    by_cases hlt : i < 3
    · have hd : decide ((i : Int) < 3) = true := decide_eq_true (by omega)
      have kc := ms_list (v := fun i => .slice (A i) (lst m.snap i).length (c i)) hM i hlt
      obtain ⟨hli, hC, hln, _⟩ := HL.out i hlt
      have hCr := Kd.C_below hC hb
      obtain ⟨w0, hw0⟩ : ∃ w0, w0 = wr := ⟨_, rfl⟩
      subst hw0
      have HM := Sec.mk hM
      clear hM hC hli
      generalize lst m.snap i = ll at kc hCr hln ⊢
      generalize A i = Ai at kc hCr ⊢
      have p1 : (0 ≤ (i : Int)) = True := eq_true (by omega)
      have q1 : ((i : Int) < 3) = True := eq_true (by omega)
      have hal : Tryd.prog.arrayLen 24 = 3 := by kernel_rfl
      go_wp2_with fail
      go_loopw [24] (fun v24 wr => ∃ j : Nat, j ≤ ll.length ∧ v24 = .int .i64 j ∧ wr = w0) (fun v24 _ => ll.length - (intOf v24).toNat)
      case atStart => exact ⟨0, by omega, rfl, rfl⟩
      case round =>
        obtain ⟨j, hj, rfl, rfl⟩ := hrel
        by_cases hjl : j < ll.length
        · have hdj : decide ((j : Int) < ll.length) = true := decide_eq_true (by omega)
          obtain ⟨ad, e, hx⟩ := Kd.at_string hCr (j : Int) (by omega) (by omega)
          cases e
          have hx' : wr.cell? (ad.add j) = some (.string (rdOf ByteArray.empty ll (j : Int))) := hx
          generalize rdOf ByteArray.empty ll (j : Int) = xs at hx'
          clear hx
          have p2 : (0 ≤ (j : Int)) = True := eq_true (by omega)
          have q2 : ((j : Int) < ll.length) = True := eq_true (by omega)
          by_cases hbig : (200 : Int) < xs.size
          · have hd2 : decide ((200 : Int) < xs.size) = true := decide_eq_true hbig
            have hd3 : decide (200 < xs.size) = true := decide_eq_true (by omega)
            go_wp2_with fail
            go_ret
            exact ⟨⟨_, rfl⟩, hb⟩
          · have hd2 : decide ((200 : Int) < xs.size) = false := decide_eq_false hbig
            have hd3 : decide (200 < xs.size) = false := decide_eq_false (by omega)
            go_wp2_with fail
            go_roundw
            case rel => exact ⟨j + 1, by omega, by go_num, trivial⟩
            case measure => simp [intOf]; omega
        · have hdj : decide ((j : Int) < ll.length) = false := decide_eq_false (by omega)
          go_wp2_with fail
          go_roundw
          case rel => exact ⟨i + 1, _, by omega, by go_num, rfl, HM.out, hb⟩
          case measure => simp [intOf]; omega
    · have hd : decide ((i : Int) < 3) = false := decide_eq_false (by omega)
      go_wp2_with fail
      all_goals go_ret
      all_goals exact ⟨⟨_, rfl⟩, hb⟩
end Go.Proofs.YtokcmaehojljdaaDoor
