/- wire.Put: its walk. -/
import Derived.Test.YtokcmaehojljdaaDoorSBytes
namespace Go.Proofs.YtokcmaehojljdaaDoor
open Go.RowKit Go.Shelf Go.Proofs.YtokcmaehojljdaaDoorW.PrintWords Go.Proofs.YtokcmaehojljdaaDoorW.PrintLast Go.Proofs.YtokcmaehojljdaaDoorW.PrintMore

def loadMs (m : Ms) : ByteArray := if m.kind = 3 then bytesSn m.snap else if m.kind = 4 then dec m.n else if m.kind = 5 then dec m.why else m.data
def putMs (m : Ms) : ByteArray := if checkMs m = 0 then ⟨(rowU [dec m.kind, loadMs m]).toArray⟩ else ⟨#[]⟩
/-- What a message that may be is like. -/
theorem checkMs_zero (m : Ms) (h : checkMs m = 0) : (1 ≤ m.kind ∧ m.kind ≤ 6) ∧ goodHas m = true ∧ ¬ (m.kind = 1 ∧ 65536 < m.data.size) ∧ ¬ ((m.kind = 2 ∧ (m.data.size < 1 ∨ 100 < m.data.size)) ∨ m.n < 0 ∨ (m.kind = 5 ∧ (m.why < 1 ∨ 23 < m.why))) ∧ (m.kind = 3 → checkSn m.snap = 0) := by
  unfold checkMs at h
  by_cases h1 : okKind m.kind = false
  · rw [if_pos h1] at h; exact absurd h (by decide)
  rw [if_neg h1] at h
  by_cases h2 : goodHas m = false
  · rw [if_pos h2] at h; exact absurd h (by decide)
  rw [if_neg h2] at h
  by_cases h3 : m.kind = 1 ∧ 65536 < m.data.size
  · rw [if_pos h3] at h; exact absurd h (by decide)
  rw [if_neg h3] at h
  by_cases h4 : (m.kind = 2 ∧ (m.data.size < 1 ∨ 100 < m.data.size)) ∨ m.n < 0 ∨ (m.kind = 5 ∧ (m.why < 1 ∨ 23 < m.why))
  · rw [if_pos h4] at h; exact absurd h (by decide)
  rw [if_neg h4] at h
  have h1' : okKind m.kind = true := by simpa using h1
  rw [okKind, Bool.and_eq_true, decide_eq_true_eq, decide_eq_true_eq] at h1'
  exact ⟨h1', by simpa using h2, h3, h4, fun h5 => by rw [if_pos h5] at h; exact h⟩
theorem dec_size_le (n : Int) (hn : -9223372036854775808 ≤ n ∧ n ≤ 9223372036854775807) : (dec n).size ≤ 21 := by
  have := Lib.itoa_length_le n hn.1 hn.2
  have e : (dec n).size = (Lib.itoa n).length := bytes_size _
  omega
theorem load_len (m : Ms) (h : checkMs m = 0) (hs : m.snap.sum.length = 32) (hn : -9223372036854775808 ≤ m.snap.n ∧ m.snap.n ≤ 9223372036854775807) (hat : -9223372036854775808 ≤ m.snap.at_ ∧ m.snap.at_ ≤ 9223372036854775807)
    (hp : -9223372036854775808 ≤ m.snap.pages ∧ m.snap.pages ≤ 9223372036854775807) (hb : -9223372036854775808 ≤ m.snap.blocks ∧ m.snap.blocks ≤ 9223372036854775807)
    (hmn : -9223372036854775808 ≤ m.n ∧ m.n ≤ 9223372036854775807) (hmw : -9223372036854775808 ≤ m.why ∧ m.why ≤ 9223372036854775807) : (loadMs m).size ≤ 1000000 := by
  obtain ⟨h1, h2, h3, h4, h5⟩ := checkMs_zero m h
  unfold loadMs
  by_cases k3 : m.kind = 3
  · rw [if_pos k3, bytesSn, if_pos (h5 k3), bytes_size]
    exact rowSn_len m.snap (h5 k3) hs hn hat hp hb
  rw [if_neg k3]
  by_cases k4 : m.kind = 4
  · rw [if_pos k4]; have := dec_size_le m.n hmn; omega
  rw [if_neg k4]
  by_cases k5 : m.kind = 5
  · rw [if_pos k5]; have := dec_size_le m.why hmw; omega
  rw [if_neg k5]
  by_cases k1 : m.kind = 1
  · omega
  by_cases k2 : m.kind = 2
  · omega
  have hm1 : may1 m.kind = false := by simp [may1, k1, k2]
  unfold goodHas at h2
  rw [hm1, Bool.and_false, Bool.and_eq_true, Bool.and_eq_true, Bool.and_eq_true] at h2
  have h6 := h2.1.1.1
  have h7 : m.data.toList = [] := by
    cases hh : m.data.toList with
    | nil => rfl
    | cons a l => rw [hh] at h6; simp at h6
  rw [ByteArray.toList_eq] at h7
  have h8 : m.data.size = 0 := by
    have := congrArg List.length h7
    simpa using this
  omega
set_option maxHeartbeats 8000000 in
set_option maxRecDepth 100000 in
theorem put_any (m : Ms) (v0 v1 v2 : Value) (w : World) (h : MsOk w m v0 v1 v2) (hl : Laid w) :
    Calls Tryd.prog 10 #[.agg (msL m v0 v1 v2).toArray] w fun e w' => e = .returned (.tuple #[.string (putMs m), .int .i64 (checkMs m)]) ∧ Below w.heap.size w w' := by
  have hs := h.snap.hs
  have hM := Row.new w (msL m v0 v1 v2).toArray 31
  have hb0 := (Below.refl w.heap.size w).alloc (Nat.le_refl _) (.cells (msL m v0 v1 v2).toArray 31)
  have hlt0 : w.heap.size < (w.alloc (.cells (msL m v0 v1 v2).toArray 31)).heap.size := by rw [size_alloc]; omega
  go_enter Tryd.func10, Tryd.ntmps10
  go_upto_region 1 with (fail)
  refine wp_abs (fun W HW => ?_)
  rw [← HW.out] at hM hb0 hlt0
  clear HW
  have hwh := ms_whole hM hs
  go_wp2_with (refine wpList_load_list rfl 31 (.tmp 1) rfl w.heap.size 0 rfl _ hwh ?_)
  clear hwh
  refine (wcheck_any m v0 v1 v2 _ (h.below hb0)).mono ?_
  rintro e w1 ⟨rfl, hb1⟩
  have hM1 : Row w1 w.heap.size 31 _ := hM.below hb1 hlt0
  replace hb1 := hb0.trans (hb1.mono hb0.size)
  clear hM hb0 hlt0
  have hpu : putMs m = if checkMs m = 0 then ⟨(rowU [dec m.kind, loadMs m]).toArray⟩ else ⟨#[]⟩ := rfl
  have hlo : loadMs m = if m.kind = 3 then bytesSn m.snap else if m.kind = 4 then dec m.n else if m.kind = 5 then dec m.why else m.data := rfl
  by_cases hck : checkMs m = 0
  · rw [if_pos hck] at hpu
    have hkr := (checkMs_zero m hck).1
    have hlen := load_len m hck hs h.snap.hn h.snap.hat h.snap.hp h.snap.hb h.hn h.hw
    have hrf : num_Row.f [dec m.kind, loadMs m] = some ⟨(rowU [dec m.kind, loadMs m]).toArray⟩ := by
      unfold num_Row.f
      have hd := dec_size_le m.kind h.hk
      have := rowU_bound 1000000 (by decide) [dec m.kind, loadMs m] (fun x hx => by
        rcases List.mem_cons.1 hx with rfl | hx
        · omega
        · rw [List.mem_singleton.1 hx]; exact hlen)
      rw [if_pos (by simp only [List.length_cons, List.length_nil] at this; omega)]
    rw [hck]
    have HPU := Sec.mk hpu
    have HCK := Sec.mk hck
    have HLO := Sec.mk hlo
    have HRF := Sec.mk hrf
    have H := Sec.mk h
    clear hpu hck hlo hrf hlen h
    obtain ⟨k0, k1, k2, k3⟩ := ms_cells hM1 hs
    have hsn := Sec.mk (ms_snap hM1 hs)
    go_upto_block 0 with (fail)
    go_cut [5, 14] (fun v5 _ wc => v5 = .string (loadMs m) ∧ Row wc w.heap.size 31 (msL m v0 v1 v2).toArray ∧ Below w.heap.size w wc)
    case first =>
      have hkc : m.kind = 1 ∨ m.kind = 2 ∨ m.kind = 3 ∨ m.kind = 4 ∨ m.kind = 5 ∨ m.kind = 6 := by omega
      clear hkr
      rcases hkc with hk | hk | hk | hk | hk | hk
      · rw [hk] at k0 ⊢
        have HK := Sec.mk hk
        clear hk
        go_wp2_with fail
        go_meet
        exact ⟨by rw [HLO.out, if_neg (by have := HK.out; omega), if_neg (by have := HK.out; omega), if_neg (by have := HK.out; omega)], hM1, hb1⟩
      · rw [hk] at k0 ⊢
        have HK := Sec.mk hk
        clear hk
        go_wp2_with fail
        go_meet
        exact ⟨by rw [HLO.out, if_neg (by have := HK.out; omega), if_neg (by have := HK.out; omega), if_neg (by have := HK.out; omega)], hM1, hb1⟩
      · rw [hk] at k0 ⊢
        have HK := Sec.mk hk
        clear hk
        go_wp2_with (refine wpList_load_list rfl 28 (.tmp 18) rfl w.heap.size 2 rfl _ hsn.out ?_)
        refine (bytes_any m.snap v0 v1 v2 _ (H.out.snap.below hb1) (hl.below hb1)).mono ?_
        rintro e w2 ⟨rfl, hb2⟩
        have hM2 := hM1.below hb2 hM1.lt
        replace hb2 := hb1.trans (hb2.mono hb1.size)
        generalize checkSn m.snap = z
        go_wp2_with fail
        go_meet
        exact ⟨by rw [HLO.out, if_pos HK.out], hM2, hb2⟩
      · rw [hk] at k0 ⊢
        have HK := Sec.mk hk
        clear hk
        go_wp2_with fail
        refine (dec_any m.n H.out.hn.1 H.out.hn.2 _ (hl.below hb1)).mono ?_
        rintro e w2 ⟨rfl, hb2⟩
        have hM2 := hM1.below hb2 hM1.lt
        replace hb2 := hb1.trans (hb2.mono hb1.size)
        go_wp2_with fail
        go_meet
        exact ⟨by rw [HLO.out, if_neg (by have := HK.out; omega), if_pos HK.out], hM2, hb2⟩
      · rw [hk] at k0 ⊢
        have HK := Sec.mk hk
        clear hk
        go_wp2_with fail
        refine (dec_any m.why H.out.hw.1 H.out.hw.2 _ (hl.below hb1)).mono ?_
        rintro e w2 ⟨rfl, hb2⟩
        have hM2 := hM1.below hb2 hM1.lt
        replace hb2 := hb1.trans (hb2.mono hb1.size)
        go_wp2_with fail
        go_meet
        exact ⟨by rw [HLO.out, if_neg (by have := HK.out; omega), if_neg (by have := HK.out; omega), if_pos HK.out], hM2, hb2⟩
      · rw [hk] at k0 ⊢
        have HK := Sec.mk hk
        clear hk
        go_wp2_with fail
        go_meet
        exact ⟨by rw [HLO.out, if_neg (by have := HK.out; omega), if_neg (by have := HK.out; omega), if_neg (by have := HK.out; omega)], hM1, hb1⟩
    case rest =>
      clear hM1 hb1 k0 k1 k2 k3
      obtain ⟨rfl, hM2, hb2⟩ := hcut
      obtain ⟨k0, -, -, -⟩ := ms_cells hM2 hs
      have hk := H.out.hk
      have hlc := hl.below hb2
      have hMl := hM2.lt
      clear hM2
      go_wp2_with fail
      refine (dec_any m.kind hk.1 hk.2 _ hlc).mono ?_
      rintro e w3 ⟨rfl, hb3⟩
      have hb3s := hb3.size
      replace hb3 := hb2.trans (hb3.mono hb2.size)
      have hb4 := hb3.alloc hb3.size (.cells #[.string (dec m.kind), .string (loadMs m)] 9)
      have hlt : w.heap.size < w3.heap.size := Nat.lt_of_lt_of_le hMl hb3s
      have hC := (Kd.R_reads' (R_new w3 w.heap.size hlt [dec m.kind, loadMs m] (by simp))).2.2
      go_wp2_with fail
      refine (num_Row.calls (some ⟨w3.heap.size, 0, none⟩) 2 [dec m.kind, loadMs m] _ _ hC (by simp) HRF.out).mono ?_
      rintro e w5 ⟨rfl, hb5⟩
      have hb6 := hb4.trans (hb5.mono hb4.size)
      go_wp2_with fail
      go_ret2
      exact ⟨by rw [HPU.out, HCK.out]; rfl, hb6⟩
  · rw [if_neg hck] at hpu
    have HPU := Sec.mk hpu
    have HCK := Sec.mk hck
    clear hpu hck hlo
    generalize hcz : checkMs m = z at HCK ⊢
    have HCZ := Sec.mk hcz
    clear hcz
    have hz : (z != 0) = true := bne_iff_ne.2 HCK.out
    have hz2 : ¬ z = 0 := HCK.out
    go_wp2_with fail
    go_ret2
    exact ⟨by rw [HPU.out, HCZ.out]; rfl, hb1⟩
end Go.Proofs.YtokcmaehojljdaaDoor
