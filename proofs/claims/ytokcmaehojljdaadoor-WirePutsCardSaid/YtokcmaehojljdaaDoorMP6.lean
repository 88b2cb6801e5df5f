/- One text of several: Of; RefBytes; RefPlain. -/
import Derived.Test.YtokcmaehojljdaaDoorMP5
import Derived.Test.YtokcmaehojljdaaDoorMP4
import Derived.Test.YtokcmaehojljdaaDoorMP1

/- manifest.Of at a snapshot's bytes: its walk. -/
namespace Go.Proofs.YtokcmaehojljdaaDoor
open Go.RowKit Go.Shelf Go.Proofs.YtokcmaehojljdaaDoorW.PrintWords Go.Proofs.YtokcmaehojljdaaDoorW.PrintLast Go.Proofs.YtokcmaehojljdaaDoorW.PrintMore

set_option maxHeartbeats 8000000 in
set_option maxRecDepth 100000 in
theorem of_main (b r0 r1 r2 r3 r4 r5 r6 r7 r8 r9 r10 : ByteArray) (hb : b.size ≤ 1000000000) (hr : ofRow b = ([r0, r1, r2, r3, r4, r5, r6, r7, r8, r9, r10], 0)) (h4 : r4.size = 8) (h10 : r10.size = 32)
    (hz : r1.size ≤ 1000000 ∧ r2.size ≤ 1000000 ∧ r3.size ≤ 1000000 ∧ r5.size ≤ 1000000 ∧ r6.size ≤ 1000000 ∧ r7.size ≤ 1000000 ∧ r8.size ≤ 1000000 ∧ r9.size ≤ 1000000)
    (S : Sn) (hi2 : int r2 = (S.n, true)) (hi3 : int r3 = (S.at_, true)) (hi5 : int r5 = (S.pages, true)) (hi6 : int r6 = (S.blocks, true)) (hm : S.mach = r1) (hck : S.clock = ((getU r4.data.toList : Nat) : Int)) (hsum : S.sum = r10.data.toList)
    (o7 : chOk r7 = true) (o8 : chOk r8 = true) (o9 : chOk r9 = true) (n7 : namesOf r7 = S.l0) (n8 : namesOf r8 = S.l1) (n9 : namesOf r9 = S.l2) (hcs : checkSn S = 0) (hbs : bytesSn S = b) (w : World) (hl : LaidE w) :
    Calls Tryd.prog 31 #[.string b] w fun e w' => (∃ u0 u1 u2, e = .returned (.tuple #[.agg (snL S u0 u1 u2).toArray, .int .i64 0]) ∧ SnOk w' S u0 u1 u2 ∧ From w.heap.size u0 ∧ From w.heap.size u1 ∧ From w.heap.size u2) ∧ Below w.heap.size w w' := by
  have HT := Sec.mk (fun w => texts_eleven b r0 r1 r2 r3 r4 r5 r6 r7 r8 r9 r10 hb hr w)
  have hM2 := Row.new w (snL sn0 (.slice none 0 0) (.slice none 0 0) (.slice none 0 0)).toArray 28
  have hb0 := (Below.refl w.heap.size w).alloc (Nat.le_refl _) (.cells (snL sn0 (.slice none 0 0) (.slice none 0 0) (.slice none 0 0)).toArray 28)
  have HS := Sec.mk (And.intro hi2 (And.intro hi3 (And.intro hi5 (And.intro hi6 (And.intro hm (And.intro hck hsum))))))
  have HC := Sec.mk (And.intro (And.intro o7 n7) (And.intro (And.intro o8 n8) (And.intro o9 n9)))
  have HF := Sec.mk (And.intro hcs hbs)
  have HZ := Sec.mk hz
  clear hi2 hi3 hi5 hi6 hm hck hsum o7 o8 o9 n7 n8 n9 hcs hbs hr hz
  go_enter Tryd.func31, Tryd.ntmps31
  go_upto_region 1 with (fail)
  refine wp_abs (fun W HW => ?_)
  replace hM2 : Row W w.heap.size 28 (snL sn0 (.slice none 0 0) (.slice none 0 0) (.slice none 0 0)).toArray := by rw [HW.out]; exact hM2
  replace hb0 : Below w.heap.size w W := by rw [HW.out]; exact hb0
  clear HW
  go_wp2_with fail
  refine (HT.out W).mono ?_
  rintro e w1 ⟨⟨g, c, rfl, hc, hcl⟩, hb1⟩
  have hM21 := hM2.below hb1 hM2.lt
  replace hb1 := hb0.trans (hb1.mono hb0.size)
  clear hM2 hb0 HT
  have h4r := Row.new w1 #[.slice (some ⟨g, 0, none⟩) 11 c] 23
  have hcl2 := hcl.below (w' := w1.alloc (.cells #[.slice (some ⟨g, 0, none⟩) 11 c] 23)) ((Below.refl w1.heap.size w1).alloc (Nat.le_refl _) _)
  have hM22 := hM21.alloc (.cells #[.slice (some ⟨g, 0, none⟩) 11 c] 23)
  have hb2 := hb1.alloc hb1.size (.cells #[.slice (some ⟨g, 0, none⟩) 11 c] 23)
  go_upto_region 2 with (fail)
  refine wp_abs (fun W2 HW => ?_)
  replace h4r : Row W2 w1.heap.size 23 #[.slice (some ⟨g, 0, none⟩) 11 c] := by rw [HW.out]; exact h4r
  replace hcl2 : Cells11 W2 g r1 r2 r3 r4 r5 r6 r7 r8 r9 r10 := by rw [HW.out]; exact hcl2
  replace hM22 : Row W2 w.heap.size 28 (snL sn0 (.slice none 0 0) (.slice none 0 0) (.slice none 0 0)).toArray := by rw [HW.out]; exact hM22
  replace hb2 : Below w.heap.size w W2 := by rw [HW.out]; exact hb2
  clear HW hcl hb1 hM21
  have hlt4 : w.heap.size < W2.heap.size := hM22.lt
  obtain ⟨b4, hb4⟩ : ∃ b4, b4 = w1.heap.size := ⟨_, rfl⟩
  rw [← hb4] at h4r ⊢
  clear hb4
  have k4 : W2.cell? ⟨b4, 0, none⟩ = some (.slice (some ⟨g, 0, none⟩) 11 c) := h4r.get
  have q4 := hcl2.c4
  have q10 := hcl2.c10
  go_upto_region 6 with (fail)
  clear k4 q4 q10
  have hX10 : r10.data.toList.length = 32 := by simp [h10]
  go_cut [6] (fun v6 wc => ∃ p D, v6 = .pointer (some ⟨p, 0, none⟩) ∧ Row wc p 28 (snL (sA r1 0 0 ((getU r4.data.toList : Nat) : Int) 0 0 r10.data.toList) (.slice none 0 0) (.slice none 0 0) (.slice none 0 0)).toArray ∧ Below W2.heap.size W2 D ∧ Below D.heap.size D wc ∧ D.heap.size ≤ p)
  case rest =>
    obtain ⟨p, D, rfl, hp, hDD, hbD, hDp⟩ := hcut
    have h4r4 := h4
    have hbw : Below W2.heap.size W2 wc := hDD.trans (hbD.mono hDD.size)
    have h4 := h4r.below hbw h4r.lt
    have hcl := hcl2.below hbw
    have hgl0 := cell_lt hcl2.c1
    have hM := hM22.below hbw hM22.lt
    have hb3 := hb2.trans (hbw.mono hb2.size)
    have hlt4 := h4r.lt
    have hltM := hM22.lt
    have hW2p : W2.heap.size ≤ p := Nat.le_trans hDD.size hDp
    have hpl := hp.lt
    clear hDD hbD hDp hbw h4r hcl2 hM22 hb2
    have h7n := Row.new wc #[.bool true] 4
    have h47 := h4.alloc (.cells #[.bool true] 4)
    have hcl7 := hcl.below ((Below.refl wc.heap.size wc).alloc (Nat.le_refl _) (.cells #[.bool true] 4))
    have hM7 := hM.alloc (.cells #[.bool true] 4)
    have hp7 := hp.alloc (.cells #[.bool true] 4)
    have hb7 := hb3.alloc hb3.size (.cells #[.bool true] 4)
    go_upto_region 8 with (fail)
    refine wp_abs (fun W8 HW => ?_)
    rw [← HW.out] at h7n h47 hcl7 hM7 hp7 hb7
    clear HW h4 hcl hM hp hb3
    obtain ⟨b7, hb7e⟩ : ∃ b7, b7 = wc.heap.size := ⟨_, rfl⟩
    rw [← hb7e] at h7n hpl ⊢
    have hb7w : W2.heap.size ≤ b7 := by omega
    clear hb7e
    go_wp2_with fail
    have hgl : g < W2.heap.size := hgl0
    refine (number_any 2 2 b4 b7 g c r2 S.n rfl (by omega) HS.out.1 HZ.out.2.1 W8 (hl.below hb7) h47 hcl7.c2 h7n).mono ?_
    rintro e x0 ⟨rfl, hy0⟩
    have j07 := h7n.below hy0 h7n.lt
    have j04 := h47.below hy0 h47.lt
    have j0c := hcl7.below hy0
    have j0M := hM7.below hy0 hM7.lt
    have j0p := hp7.below hy0 hp7.lt
    have j0b := hb7.trans (hy0.mono hb7.size)
    clear h7n h47 hcl7 hM7 hp7 hb7 hy0
    go_wp2_with fail
    refine (number_any 3 3 b4 b7 g c r3 S.at_ rfl (by omega) HS.out.2.1 HZ.out.2.2.1 x0 (hl.below j0b) j04 j0c.c3 j07).mono ?_
    rintro e x1 ⟨rfl, hy1⟩
    have j17 := j07.below hy1 j07.lt
    have j14 := j04.below hy1 j04.lt
    have j1c := j0c.below hy1
    have j1M := j0M.below hy1 j0M.lt
    have j1p := j0p.below hy1 j0p.lt
    have j1b := j0b.trans (hy1.mono j0b.size)
    clear j07 j04 j0c j0M j0p j0b hy1
    go_wp2_with fail
    refine (number_any 5 5 b4 b7 g c r5 S.pages rfl (by omega) HS.out.2.2.1 HZ.out.2.2.2.1 x1 (hl.below j1b) j14 j1c.c5 j17).mono ?_
    rintro e x2 ⟨rfl, hy2⟩
    have j27 := j17.below hy2 j17.lt
    have j24 := j14.below hy2 j14.lt
    have j2c := j1c.below hy2
    have j2M := j1M.below hy2 j1M.lt
    have j2p := j1p.below hy2 j1p.lt
    have j2b := j1b.trans (hy2.mono j1b.size)
    clear j17 j14 j1c j1M j1p j1b hy2
    go_wp2_with fail
    refine (number_any 6 6 b4 b7 g c r6 S.blocks rfl (by omega) HS.out.2.2.2.1 HZ.out.2.2.2.2.1 x2 (hl.below j2b) j24 j2c.c6 j27).mono ?_
    rintro e x3 ⟨rfl, hy3⟩
    have j37 := j27.below hy3 j27.lt
    have j34 := j24.below hy3 j24.lt
    have j3c := j2c.below hy3
    have j3M := j2M.below hy3 j2M.lt
    have j3p := j2p.below hy3 j2p.lt
    have j3b := j2b.trans (hy3.mono j2b.size)
    clear j27 j24 j2c j2M j2p j2b hy3
    have cp1 : x3.cell? ⟨p, 1, none⟩ = some (.int .i64 0) := j3p.at_ 1
    have fp1 := j3p.free 1
    have cp2 : x3.cell? ⟨p, 2, none⟩ = some (.int .i64 0) := j3p.at_ 2
    have fp2 := j3p.free 2
    have cp4 : x3.cell? ⟨p, 4, none⟩ = some (.int .i64 0) := j3p.at_ 4
    have fp4 := j3p.free 4
    have cp5 : x3.cell? ⟨p, 5, none⟩ = some (.int .i64 0) := j3p.at_ 5
    have fp5 := j3p.free 5
    have s0p := put_list j3p 1 (.int .i64 S.n) (snL (sA r1 S.n 0 ((getU r4.data.toList : Nat) : Int) 0 0 r10.data.toList) (.slice none 0 0) (.slice none 0 0) (.slice none 0 0)) rfl
    have s07 := j37.aside (a := ⟨p, 1, none⟩) (by show b7 ≠ p; omega) (.int .i64 S.n)
    have s04 := j34.aside (a := ⟨p, 1, none⟩) (by show b4 ≠ p; omega) (.int .i64 S.n)
    have s0c := j3c.aside (a := ⟨p, 1, none⟩) (by show g ≠ p; omega) (.int .i64 S.n)
    have s0M := j3M.aside (a := ⟨p, 1, none⟩) (by show w.heap.size ≠ p; omega) (.int .i64 S.n)
    have s0b := j3b.setCell (p := ⟨p, 1, none⟩) (by show w.heap.size ≤ p; omega) (.int .i64 S.n)
    have s1p := put_list s0p 2 (.int .i64 S.at_) (snL (sA r1 S.n S.at_ ((getU r4.data.toList : Nat) : Int) 0 0 r10.data.toList) (.slice none 0 0) (.slice none 0 0) (.slice none 0 0)) rfl
    have s17 := s07.aside (a := ⟨p, 2, none⟩) (by show b7 ≠ p; omega) (.int .i64 S.at_)
    have s14 := s04.aside (a := ⟨p, 2, none⟩) (by show b4 ≠ p; omega) (.int .i64 S.at_)
    have s1c := s0c.aside (a := ⟨p, 2, none⟩) (by show g ≠ p; omega) (.int .i64 S.at_)
    have s1M := s0M.aside (a := ⟨p, 2, none⟩) (by show w.heap.size ≠ p; omega) (.int .i64 S.at_)
    have s1b := s0b.setCell (p := ⟨p, 2, none⟩) (by show w.heap.size ≤ p; omega) (.int .i64 S.at_)
    have s2p := put_list s1p 4 (.int .i64 S.pages) (snL (sA r1 S.n S.at_ ((getU r4.data.toList : Nat) : Int) S.pages 0 r10.data.toList) (.slice none 0 0) (.slice none 0 0) (.slice none 0 0)) rfl
    have s27 := s17.aside (a := ⟨p, 4, none⟩) (by show b7 ≠ p; omega) (.int .i64 S.pages)
    have s24 := s14.aside (a := ⟨p, 4, none⟩) (by show b4 ≠ p; omega) (.int .i64 S.pages)
    have s2c := s1c.aside (a := ⟨p, 4, none⟩) (by show g ≠ p; omega) (.int .i64 S.pages)
    have s2M := s1M.aside (a := ⟨p, 4, none⟩) (by show w.heap.size ≠ p; omega) (.int .i64 S.pages)
    have s2b := s1b.setCell (p := ⟨p, 4, none⟩) (by show w.heap.size ≤ p; omega) (.int .i64 S.pages)
    have s3p := put_list s2p 5 (.int .i64 S.blocks) (snL (sA r1 S.n S.at_ ((getU r4.data.toList : Nat) : Int) S.pages S.blocks r10.data.toList) (.slice none 0 0) (.slice none 0 0) (.slice none 0 0)) rfl
    have s37 := s27.aside (a := ⟨p, 5, none⟩) (by show b7 ≠ p; omega) (.int .i64 S.blocks)
    have s34 := s24.aside (a := ⟨p, 5, none⟩) (by show b4 ≠ p; omega) (.int .i64 S.blocks)
    have s3c := s2c.aside (a := ⟨p, 5, none⟩) (by show g ≠ p; omega) (.int .i64 S.blocks)
    have s3M := s2M.aside (a := ⟨p, 5, none⟩) (by show w.heap.size ≠ p; omega) (.int .i64 S.blocks)
    have s3b := s2b.setCell (p := ⟨p, 5, none⟩) (by show w.heap.size ≤ p; omega) (.int .i64 S.blocks)
    clear s0p s07 s04 s0c s0M s0b s1p s17 s14 s1c s1M s1b s2p s27 s24 s2c s2M s2b
    go_upto_region 10 with (fail)
    refine wp_abs (fun WA HW => ?_)
    rw [← HW.out] at s3p s37 s34 s3c s3M s3b
    clear HW j37 j34 j3c j3M j3p j3b cp1 cp2 cp4 cp5 fp1 fp2 fp4 fp5
    go_wp2_with fail
    go_loopw [68] (fun v68 wr => ∃ (i : Nat) (y0 y1 y2 : Value), i ≤ 3 ∧ v68 = .int .i64 i ∧ Row wr p 28 (snL (sA r1 S.n S.at_ ((getU r4.data.toList : Nat) : Int) S.pages S.blocks r10.data.toList) y0 y1 y2).toArray ∧ (0 < i → TextsAt wr y0 S.l0 ∧ From (p + 1) y0) ∧ (1 < i → TextsAt wr y1 S.l1 ∧ From (p + 1) y1) ∧ (2 < i → TextsAt wr y2 S.l2 ∧ From (p + 1) y2) ∧ Row wr b4 23 #[.slice (some ⟨g, 0, none⟩) 11 c] ∧ Cells11 wr g r1 r2 r3 r4 r5 r6 r7 r8 r9 r10 ∧ Row wr b7 4 #[.bool true] ∧ Row wr w.heap.size 28 (snL sn0 (.slice none 0 0) (.slice none 0 0) (.slice none 0 0)).toArray ∧ Below w.heap.size w wr) (fun v68 _ => 3 - (intOf v68).toNat)
    case atStart => exact ⟨0, _, _, _, by omega, rfl, s3p, fun h => absurd h (by omega), fun h => absurd h (by omega), fun h => absurd h (by omega), s34, s3c, s37, s3M, s3b⟩
    case round =>
      clear s3p s34 s3c s37 s3M s3b
      obtain ⟨i, y0, y1, y2, hi, rfl, hp, t0, t1, t2, h4, hcl, h7, hM, hb⟩ := hrel
      have hic : i = 0 ∨ i = 1 ∨ i = 2 ∨ i = 3 := by omega
      rcases hic with rfl | rfl | rfl | rfl
      · have k4 : wr.cell? ⟨b4, 0, none⟩ = some (.slice (some ⟨g, 0, none⟩) 11 c) := h4.get
        have kc := hcl.c7
        go_wp2_with fail
        refine (chunks_any r7 (by have := HZ.out.2.2.2.2.2.1; omega) _).mono ?_
        rintro e w9 ⟨⟨v, rfl, hRv⟩, hb9⟩
        obtain ⟨hT, hF⟩ := texts_of_R hRv (names_small r7 HZ.out.2.2.2.2.2.1).1 (names_small r7 HZ.out.2.2.2.2.2.1).2
        rw [HC.out.1.2] at hT
        rw [HC.out.1.1]
        obtain ⟨Av, cv, hve, -⟩ := id hT
        subst hve
        replace hF := hF.mono (show p + 1 ≤ wr.heap.size from hp.lt)
        replace hp := hp.below hb9 hp.lt
        replace h4 := h4.below hb9 h4.lt
        replace hcl := hcl.below hb9
        replace h7 := h7.below hb9 h7.lt
        replace hM := hM.below hb9 hM.lt
        replace hb := hb.trans (hb9.mono hb.size)
        clear hRv hb9 k4 kc
        go_upto_region 14 with (fail)
        obtain ⟨D2, hD⟩ : ∃ D2, D2 = w9.drew := ⟨_, rfl⟩
        have hdr : Below w9.heap.size w9 D2 := by rw [hD]; exact (Below.refl _ _).drew
        replace hp := hp.below hdr hp.lt
        replace h4 := h4.below hdr h4.lt
        replace hcl := hcl.below hdr
        replace h7 := h7.below hdr h7.lt
        replace hM := hM.below hdr hM.lt
        replace hT := hT.below hdr
        replace hb := hb.trans (hdr.mono hb.size)
        refine wp_region_held_drew (S := fun _ => True) (by kernel_rfl) trivial (fun hS => ?_)
        rw [← hD]
        clear hD hdr
        have k7 : D2.cell? ⟨b7, 0, none⟩ = some (.bool true) := h7.get
        have f7 := h7.free 0
        have kp : D2.cell? ⟨p, 6, none⟩ = some y0 := hp.at_ 6
        have fp := hp.free 6
        have hal : Tryd.prog.arrayLen 24 = 3 := by kernel_rfl
        refine wpAnyH_take (i := 0) (v := .int .i64 0) rfl (by kernel_rfl) (by kernel_rfl) (by kernel_rfl) (fun _ _ _ h => h) (Or.inl ⟨rfl, fun w' h => by go_simp; try rfl⟩) hS ?_
        go_simp
        refine wpAnyH_take (i := 1) (v := (.slice Av S.l0.length cv)) rfl (by kernel_rfl) (by kernel_rfl) (by kernel_rfl) (fun _ _ _ h => h) (Or.inl ⟨rfl, fun w' h => by go_simp; try rfl⟩) hS ?_
        go_simp
        refine wpAnyH_take (i := 6) (v := .pointer (some ⟨p, 6, none⟩)) rfl (by kernel_rfl) (by kernel_rfl) (by kernel_rfl) (fun _ _ _ h => h) (Or.inl ⟨rfl, fun w' h => by go_simp; try rfl⟩) hS ?_
        go_simp
        refine wpAnyH_take (i := 7) (v := .pointer (some ⟨p, 6, none⟩)) rfl (by kernel_rfl) (by kernel_rfl) (by kernel_rfl) (fun _ _ _ h => h) (Or.inl ⟨rfl, fun w' h => by go_simp; try rfl⟩) hS ?_
        go_simp
        refine wpAnyH_ready (rs := [2]) (by kernel_rfl) (by simp) (AllReadyH.cons (o := _) rfl (fun K hK => ?_) AllReadyH.nil)
        go_simp
        refine hK.out _ _ trivial (fun hS => ?_)
        clear hK K
        go_simp
        refine wpAnyH_take (i := 3) (v := .bool true) rfl (by kernel_rfl) (by kernel_rfl) (by kernel_rfl) (fun _ _ _ h => h) (Or.inl ⟨rfl, fun w' h => by go_simp; try rfl⟩) hS ?_
        go_simp
        refine wpAnyH_take (i := 4) (v := .bool true) rfl (by kernel_rfl) (by kernel_rfl) (by kernel_rfl) (fun _ _ _ h => h) (Or.inl ⟨rfl, fun w' h => by go_simp; try rfl⟩) hS ?_
        go_simp
        refine wpAnyH_take (i := 5) (v := .bool true) rfl (by kernel_rfl) (by kernel_rfl) (by kernel_rfl) (fun _ _ _ h => h) (Or.inl ⟨rfl, fun w' h => by go_simp; try rfl⟩) hS ?_
        go_simp
        refine wpAnyH_ready (rs := [8]) (by kernel_rfl) (by simp) (AllReadyH.cons (o := _) rfl (fun K hK => ?_) AllReadyH.nil)
        go_simp
        refine hK.out _ _ trivial (fun hS => ?_)
        clear hK K
        go_simp
        refine wpAnyH_ready (rs := [9]) (by kernel_rfl) (by simp) (AllReadyH.cons (o := _) rfl (fun K hK => ?_) AllReadyH.nil)
        go_simp
        refine hK.out _ _ trivial (fun hS => ?_)
        clear hK K
        go_simp
        refine wpAnyH_done (by kernel_rfl) ?_ _
        have z7 := h7.aside (a := ⟨p, 6, none⟩) (by show b7 ≠ p; omega) (.slice Av S.l0.length cv)
        have zss := set_same z7
        go_wp2_with fail
        go_roundw
        case rel =>
          first | rw [zss] | skip
          exact ⟨1, (.slice Av S.l0.length cv), y1, y2, by omega, by go_num, put_list hp 6 (.slice Av S.l0.length cv) (snL (sA r1 S.n S.at_ ((getU r4.data.toList : Nat) : Int) S.pages S.blocks r10.data.toList) (.slice Av S.l0.length cv) y1 y2) rfl, fun _ => ⟨hT.set hF (by omega) _ _, hF⟩, fun h => absurd h (by omega), fun h => absurd h (by omega), h4.aside (a := ⟨p, 6, none⟩) (by show b4 ≠ p; omega) (.slice Av S.l0.length cv), hcl.aside (a := ⟨p, 6, none⟩) (by show g ≠ p; omega) (.slice Av S.l0.length cv), z7, hM.aside (a := ⟨p, 6, none⟩) (by show w.heap.size ≠ p; omega) (.slice Av S.l0.length cv), hb.setCell (p := ⟨p, 6, none⟩) (by show w.heap.size ≤ p; omega) (.slice Av S.l0.length cv)⟩
        case measure => simp [intOf]
      · have k4 : wr.cell? ⟨b4, 0, none⟩ = some (.slice (some ⟨g, 0, none⟩) 11 c) := h4.get
        have kc := hcl.c8
        go_wp2_with fail
        refine (chunks_any r8 (by have := HZ.out.2.2.2.2.2.2.1; omega) _).mono ?_
        rintro e w9 ⟨⟨v, rfl, hRv⟩, hb9⟩
        obtain ⟨hT, hF⟩ := texts_of_R hRv (names_small r8 HZ.out.2.2.2.2.2.2.1).1 (names_small r8 HZ.out.2.2.2.2.2.2.1).2
        rw [HC.out.2.1.2] at hT
        rw [HC.out.2.1.1]
        obtain ⟨Av, cv, hve, -⟩ := id hT
        subst hve
        replace hF := hF.mono (show p + 1 ≤ wr.heap.size from hp.lt)
        replace hp := hp.below hb9 hp.lt
        replace h4 := h4.below hb9 h4.lt
        replace hcl := hcl.below hb9
        replace h7 := h7.below hb9 h7.lt
        replace hM := hM.below hb9 hM.lt
        replace t0 : TextsAt w9 y0 S.l0 ∧ From (p + 1) y0 := ⟨(t0 (by omega)).1.below hb9, (t0 (by omega)).2⟩
        replace hb := hb.trans (hb9.mono hb.size)
        clear hRv hb9 k4 kc
        go_upto_region 14 with (fail)
        obtain ⟨D2, hD⟩ : ∃ D2, D2 = w9.drew := ⟨_, rfl⟩
        have hdr : Below w9.heap.size w9 D2 := by rw [hD]; exact (Below.refl _ _).drew
        replace hp := hp.below hdr hp.lt
        replace h4 := h4.below hdr h4.lt
        replace hcl := hcl.below hdr
        replace h7 := h7.below hdr h7.lt
        replace hM := hM.below hdr hM.lt
        replace hT := hT.below hdr
        replace t0 : TextsAt D2 y0 S.l0 ∧ From (p + 1) y0 := ⟨t0.1.below hdr, t0.2⟩
        replace hb := hb.trans (hdr.mono hb.size)
        refine wp_region_held_drew (S := fun _ => True) (by kernel_rfl) trivial (fun hS => ?_)
        rw [← hD]
        clear hD hdr
        have k7 : D2.cell? ⟨b7, 0, none⟩ = some (.bool true) := h7.get
        have f7 := h7.free 0
        have kp : D2.cell? ⟨p, 7, none⟩ = some y1 := hp.at_ 7
        have fp := hp.free 7
        have hal : Tryd.prog.arrayLen 24 = 3 := by kernel_rfl
        refine wpAnyH_take (i := 0) (v := .int .i64 1) rfl (by kernel_rfl) (by kernel_rfl) (by kernel_rfl) (fun _ _ _ h => h) (Or.inl ⟨rfl, fun w' h => by go_simp; try rfl⟩) hS ?_
        go_simp
        refine wpAnyH_take (i := 1) (v := (.slice Av S.l1.length cv)) rfl (by kernel_rfl) (by kernel_rfl) (by kernel_rfl) (fun _ _ _ h => h) (Or.inl ⟨rfl, fun w' h => by go_simp; try rfl⟩) hS ?_
        go_simp
        refine wpAnyH_take (i := 6) (v := .pointer (some ⟨p, 6, none⟩)) rfl (by kernel_rfl) (by kernel_rfl) (by kernel_rfl) (fun _ _ _ h => h) (Or.inl ⟨rfl, fun w' h => by go_simp; try rfl⟩) hS ?_
        go_simp
        refine wpAnyH_take (i := 7) (v := .pointer (some ⟨p, 7, none⟩)) rfl (by kernel_rfl) (by kernel_rfl) (by kernel_rfl) (fun _ _ _ h => h) (Or.inl ⟨rfl, fun w' h => by go_simp; try rfl⟩) hS ?_
        go_simp
        refine wpAnyH_ready (rs := [2]) (by kernel_rfl) (by simp) (AllReadyH.cons (o := _) rfl (fun K hK => ?_) AllReadyH.nil)
        go_simp
        refine hK.out _ _ trivial (fun hS => ?_)
        clear hK K
        go_simp
        refine wpAnyH_take (i := 3) (v := .bool true) rfl (by kernel_rfl) (by kernel_rfl) (by kernel_rfl) (fun _ _ _ h => h) (Or.inl ⟨rfl, fun w' h => by go_simp; try rfl⟩) hS ?_
        go_simp
        refine wpAnyH_take (i := 4) (v := .bool true) rfl (by kernel_rfl) (by kernel_rfl) (by kernel_rfl) (fun _ _ _ h => h) (Or.inl ⟨rfl, fun w' h => by go_simp; try rfl⟩) hS ?_
        go_simp
        refine wpAnyH_take (i := 5) (v := .bool true) rfl (by kernel_rfl) (by kernel_rfl) (by kernel_rfl) (fun _ _ _ h => h) (Or.inl ⟨rfl, fun w' h => by go_simp; try rfl⟩) hS ?_
        go_simp
        refine wpAnyH_ready (rs := [8]) (by kernel_rfl) (by simp) (AllReadyH.cons (o := _) rfl (fun K hK => ?_) AllReadyH.nil)
        go_simp
        refine hK.out _ _ trivial (fun hS => ?_)
        clear hK K
        go_simp
        refine wpAnyH_ready (rs := [9]) (by kernel_rfl) (by simp) (AllReadyH.cons (o := _) rfl (fun K hK => ?_) AllReadyH.nil)
        go_simp
        refine hK.out _ _ trivial (fun hS => ?_)
        clear hK K
        go_simp
        refine wpAnyH_done (by kernel_rfl) ?_ _
        have z7 := h7.aside (a := ⟨p, 7, none⟩) (by show b7 ≠ p; omega) (.slice Av S.l1.length cv)
        have zss := set_same z7
        go_wp2_with fail
        go_roundw
        case rel =>
          first | rw [zss] | skip
          exact ⟨2, y0, (.slice Av S.l1.length cv), y2, by omega, by go_num, put_list hp 7 (.slice Av S.l1.length cv) (snL (sA r1 S.n S.at_ ((getU r4.data.toList : Nat) : Int) S.pages S.blocks r10.data.toList) y0 (.slice Av S.l1.length cv) y2) rfl, fun _ => ⟨t0.1.set t0.2 (by omega) _ _, t0.2⟩, fun _ => ⟨hT.set hF (by omega) _ _, hF⟩, fun h => absurd h (by omega), h4.aside (a := ⟨p, 7, none⟩) (by show b4 ≠ p; omega) (.slice Av S.l1.length cv), hcl.aside (a := ⟨p, 7, none⟩) (by show g ≠ p; omega) (.slice Av S.l1.length cv), z7, hM.aside (a := ⟨p, 7, none⟩) (by show w.heap.size ≠ p; omega) (.slice Av S.l1.length cv), hb.setCell (p := ⟨p, 7, none⟩) (by show w.heap.size ≤ p; omega) (.slice Av S.l1.length cv)⟩
        case measure => simp [intOf]
      · have k4 : wr.cell? ⟨b4, 0, none⟩ = some (.slice (some ⟨g, 0, none⟩) 11 c) := h4.get
        have kc := hcl.c9
        go_wp2_with fail
        refine (chunks_any r9 (by have := HZ.out.2.2.2.2.2.2.2; omega) _).mono ?_
        rintro e w9 ⟨⟨v, rfl, hRv⟩, hb9⟩
        obtain ⟨hT, hF⟩ := texts_of_R hRv (names_small r9 HZ.out.2.2.2.2.2.2.2).1 (names_small r9 HZ.out.2.2.2.2.2.2.2).2
        rw [HC.out.2.2.2] at hT
        rw [HC.out.2.2.1]
        obtain ⟨Av, cv, hve, -⟩ := id hT
        subst hve
        replace hF := hF.mono (show p + 1 ≤ wr.heap.size from hp.lt)
        replace hp := hp.below hb9 hp.lt
        replace h4 := h4.below hb9 h4.lt
        replace hcl := hcl.below hb9
        replace h7 := h7.below hb9 h7.lt
        replace hM := hM.below hb9 hM.lt
        replace t0 : TextsAt w9 y0 S.l0 ∧ From (p + 1) y0 := ⟨(t0 (by omega)).1.below hb9, (t0 (by omega)).2⟩
        replace t1 : TextsAt w9 y1 S.l1 ∧ From (p + 1) y1 := ⟨(t1 (by omega)).1.below hb9, (t1 (by omega)).2⟩
        replace hb := hb.trans (hb9.mono hb.size)
        clear hRv hb9 k4 kc
        go_upto_region 14 with (fail)
        obtain ⟨D2, hD⟩ : ∃ D2, D2 = w9.drew := ⟨_, rfl⟩
        have hdr : Below w9.heap.size w9 D2 := by rw [hD]; exact (Below.refl _ _).drew
        replace hp := hp.below hdr hp.lt
        replace h4 := h4.below hdr h4.lt
        replace hcl := hcl.below hdr
        replace h7 := h7.below hdr h7.lt
        replace hM := hM.below hdr hM.lt
        replace hT := hT.below hdr
        replace t0 : TextsAt D2 y0 S.l0 ∧ From (p + 1) y0 := ⟨t0.1.below hdr, t0.2⟩
        replace t1 : TextsAt D2 y1 S.l1 ∧ From (p + 1) y1 := ⟨t1.1.below hdr, t1.2⟩
        replace hb := hb.trans (hdr.mono hb.size)
        refine wp_region_held_drew (S := fun _ => True) (by kernel_rfl) trivial (fun hS => ?_)
        rw [← hD]
        clear hD hdr
        have k7 : D2.cell? ⟨b7, 0, none⟩ = some (.bool true) := h7.get
        have f7 := h7.free 0
        have kp : D2.cell? ⟨p, 8, none⟩ = some y2 := hp.at_ 8
        have fp := hp.free 8
        have hal : Tryd.prog.arrayLen 24 = 3 := by kernel_rfl
        refine wpAnyH_take (i := 0) (v := .int .i64 2) rfl (by kernel_rfl) (by kernel_rfl) (by kernel_rfl) (fun _ _ _ h => h) (Or.inl ⟨rfl, fun w' h => by go_simp; try rfl⟩) hS ?_
        go_simp
        refine wpAnyH_take (i := 1) (v := (.slice Av S.l2.length cv)) rfl (by kernel_rfl) (by kernel_rfl) (by kernel_rfl) (fun _ _ _ h => h) (Or.inl ⟨rfl, fun w' h => by go_simp; try rfl⟩) hS ?_
        go_simp
        refine wpAnyH_take (i := 6) (v := .pointer (some ⟨p, 6, none⟩)) rfl (by kernel_rfl) (by kernel_rfl) (by kernel_rfl) (fun _ _ _ h => h) (Or.inl ⟨rfl, fun w' h => by go_simp; try rfl⟩) hS ?_
        go_simp
        refine wpAnyH_take (i := 7) (v := .pointer (some ⟨p, 8, none⟩)) rfl (by kernel_rfl) (by kernel_rfl) (by kernel_rfl) (fun _ _ _ h => h) (Or.inl ⟨rfl, fun w' h => by go_simp; try rfl⟩) hS ?_
        go_simp
        refine wpAnyH_ready (rs := [2]) (by kernel_rfl) (by simp) (AllReadyH.cons (o := _) rfl (fun K hK => ?_) AllReadyH.nil)
        go_simp
        refine hK.out _ _ trivial (fun hS => ?_)
        clear hK K
        go_simp
        refine wpAnyH_take (i := 3) (v := .bool true) rfl (by kernel_rfl) (by kernel_rfl) (by kernel_rfl) (fun _ _ _ h => h) (Or.inl ⟨rfl, fun w' h => by go_simp; try rfl⟩) hS ?_
        go_simp
        refine wpAnyH_take (i := 4) (v := .bool true) rfl (by kernel_rfl) (by kernel_rfl) (by kernel_rfl) (fun _ _ _ h => h) (Or.inl ⟨rfl, fun w' h => by go_simp; try rfl⟩) hS ?_
        go_simp
        refine wpAnyH_take (i := 5) (v := .bool true) rfl (by kernel_rfl) (by kernel_rfl) (by kernel_rfl) (fun _ _ _ h => h) (Or.inl ⟨rfl, fun w' h => by go_simp; try rfl⟩) hS ?_
        go_simp
        refine wpAnyH_ready (rs := [8]) (by kernel_rfl) (by simp) (AllReadyH.cons (o := _) rfl (fun K hK => ?_) AllReadyH.nil)
        go_simp
        refine hK.out _ _ trivial (fun hS => ?_)
        clear hK K
        go_simp
        refine wpAnyH_ready (rs := [9]) (by kernel_rfl) (by simp) (AllReadyH.cons (o := _) rfl (fun K hK => ?_) AllReadyH.nil)
        go_simp
        refine hK.out _ _ trivial (fun hS => ?_)
        clear hK K
        go_simp
        refine wpAnyH_done (by kernel_rfl) ?_ _
        have z7 := h7.aside (a := ⟨p, 8, none⟩) (by show b7 ≠ p; omega) (.slice Av S.l2.length cv)
        have zss := set_same z7
        go_wp2_with fail
        go_roundw
        case rel =>
          first | rw [zss] | skip
          exact ⟨3, y0, y1, (.slice Av S.l2.length cv), by omega, by go_num, put_list hp 8 (.slice Av S.l2.length cv) (snL (sA r1 S.n S.at_ ((getU r4.data.toList : Nat) : Int) S.pages S.blocks r10.data.toList) y0 y1 (.slice Av S.l2.length cv)) rfl, fun _ => ⟨t0.1.set t0.2 (by omega) _ _, t0.2⟩, fun _ => ⟨t1.1.set t1.2 (by omega) _ _, t1.2⟩, fun _ => ⟨hT.set hF (by omega) _ _, hF⟩, h4.aside (a := ⟨p, 8, none⟩) (by show b4 ≠ p; omega) (.slice Av S.l2.length cv), hcl.aside (a := ⟨p, 8, none⟩) (by show g ≠ p; omega) (.slice Av S.l2.length cv), z7, hM.aside (a := ⟨p, 8, none⟩) (by show w.heap.size ≠ p; omega) (.slice Av S.l2.length cv), hb.setCell (p := ⟨p, 8, none⟩) (by show w.heap.size ≤ p; omega) (.slice Av S.l2.length cv)⟩
        case measure => simp [intOf]
      · replace t0 := t0 (by omega)
        replace t1 := t1 (by omega)
        replace t2 := t2 (by omega)
        have hX : S.sum.length = 32 := by rw [HS.out.2.2.2.2.2.2]; exact hX10
        have eL : snL (sA r1 S.n S.at_ ((getU r4.data.toList : Nat) : Int) S.pages S.blocks r10.data.toList) y0 y1 y2 = snL S y0 y1 y2 := by
          unfold snL sA
          rw [HS.out.2.2.2.2.1, HS.out.2.2.2.2.2.1, HS.out.2.2.2.2.2.2]
        rw [eL] at hp
        have n2 := int_range r2
        have n3 := int_range r3
        have n5 := int_range r5
        have n6 := int_range r6
        rw [HS.out.1] at n2
        rw [HS.out.2.1] at n3
        rw [HS.out.2.2.1] at n5
        rw [HS.out.2.2.2.1] at n6
        have n4 := getU_lt r4.data.toList
        have hr4l : r4.data.toList.length = 8 := by simp [h4r4]
        rw [hr4l] at n4
        have hok : SnOk wr S y0 y1 y2 := ⟨t0.1, t1.1, t2.1, hX, by rw [HS.out.2.2.2.2.1]; have := HZ.out.1; omega, n2, n3, by rw [HS.out.2.2.2.2.2.1]; constructor <;> omega, n5, n6⟩
        have HOK := Sec.mk hok
        clear n2 n3 n4 n5 n6 hr4l eL
        have hwl := sn_whole hp hX
        go_wp2_with (refine wpList_load_list rfl 28 (.tmp 6) rfl p 0 rfl _ hwl ?_)
        refine (bytes_any S y0 y1 y2 _ hok (hl.below hb).toLaid).mono ?_
        rintro e w5 ⟨rfl, hb5⟩
        rw [HF.out.1, HF.out.2]
        replace hp := hp.below hb5 hp.lt
        replace h7 := h7.below hb5 h7.lt
        replace hM := hM.below hb5 hM.lt
        have hok5 := HOK.out.below hb5
        replace hb := hb.trans (hb5.mono hb.size)
        have k7 : w5.cell? ⟨b7, 0, none⟩ = some (.bool true) := h7.get
        have hss : (b.toList == b.toList) = true := beq_self_eq_true _
        have hwl := sn_whole hp hX
        have h0 : TextsAt w5 y0 S.l0 := hok5.h0
        have h1 : TextsAt w5 y1 S.l1 := hok5.h1
        have h2 : TextsAt w5 y2 S.l2 := hok5.h2
        have hrow := hM.row (C := (snL S y0 y1 y2).toArray)
        have hfin : SnOk (w5.setRow w.heap.size (snL S y0 y1 y2).toArray) S y0 y1 y2 := ⟨h0.row t0.2 (by omega) _, h1.row t1.2 (by omega) _, h2.row t2.2 (by omega) _, hok5.hs, hok5.hm, hok5.hn, hok5.hat, hok5.hc, hok5.hp, hok5.hb⟩
        have HFI := Sec.mk hfin
        have hold : (snL sn0 (.slice none 0 0) (.slice none 0 0) (.slice none 0 0)).toArray.size = (snL S y0 y1 y2).toArray.size := by rw [List.size_toArray, List.size_toArray, snL_len (by decide), snL_len hX]
        have hone := all_oneCell_toArray (snL_one S h0.one h1.one h2.one)
        have hF0 := t0.2.mono (show w.heap.size ≤ p + 1 by omega)
        have hF1 := t1.2.mono (show w.heap.size ≤ p + 1 by omega)
        have hF2 := t2.2.mono (show w.heap.size ≤ p + 1 by omega)
        clear hb5 hok hok5 hfin t0 t1 t2 h0 h1 h2 h4 hcl HOK
        go_wp2_with (first
          | refine wpList_load_list rfl 28 (.tmp 6) rfl p 0 rfl _ hwl ?_
          | refine wpList_store_row rfl 28 (.tmp 2) (.tmp 106) rfl w.heap.size (snL S y0 y1 y2).toArray rfl rfl 28 _ hM (size28 S hX _ _ _) hold hone ?_)
        exact of_ret hrow hX 0 _ rfl rfl rfl _ ⟨⟨y0, y1, y2, rfl, HFI.out, hF0, hF1, hF2⟩, below_row hb (Nat.le_refl _) _⟩
  rename_i J K' hJ hMet
  obtain ⟨D, hD⟩ : ∃ D, D = W2.drew := ⟨_, rfl⟩
  have hDD : Below W2.heap.size W2 D := by rw [hD]; exact (Below.refl _ _).drew
  have h4d : Row D b4 23 #[.slice (some ⟨g, 0, none⟩) 11 c] := h4r.below hDD h4r.lt
  have hcd := hcl2.below hDD
  refine wp_region_held_drew (S := Below D.heap.size D) (by kernel_rfl) (by rw [← hD]; exact Below.refl _ _) (fun hS => ?_)
  rw [← hD] at hS ⊢
  clear hD
  have RG := Sec.mk (fun w' (h : Below D.heap.size D w') => hcd.below h)
  have R4 : Sec (∀ w', Below D.heap.size D w' → w'.cell? ⟨b4, 0, none⟩ = some (.slice (some ⟨g, 0, none⟩) 11 c)) := ⟨fun w' h => (h4d.below h h4d.lt).get⟩
  refine wpAnyH_take (i := 0) (v := .slice (some ⟨g, 0, none⟩) 11 c) rfl (by kernel_rfl) (by kernel_rfl) (by kernel_rfl) (fun _ _ _ h => h) (Or.inl ⟨rfl, fun w' h => by have c := (R4.out w' h); go_simp; try rfl⟩) hS ?_
  go_simp
  refine wpAnyH_take (i := 1) (v := .pointer (some ⟨g, 1, none⟩)) rfl (by kernel_rfl) (by kernel_rfl) (by kernel_rfl) (fun _ _ _ h => h) (Or.inl ⟨rfl, fun w' h => by go_simp; try rfl⟩) hS ?_
  go_simp
  refine wpAnyH_take (i := 2) (v := .string r1) rfl (by kernel_rfl) (by kernel_rfl) (by kernel_rfl) (fun _ _ _ h => h) (Or.inl ⟨rfl, fun w' h => by have c := (RG.out w' h).c1; go_simp; try rfl⟩) hS ?_
  go_simp
  refine wpAnyH_take (i := 3) (v := .slice (some ⟨g, 0, none⟩) 11 c) rfl (by kernel_rfl) (by kernel_rfl) (by kernel_rfl) (fun _ _ _ h => h) (Or.inl ⟨rfl, fun w' h => by have c := (R4.out w' h); go_simp; try rfl⟩) hS ?_
  go_simp
  refine wpAnyH_take (i := 4) (v := .pointer (some ⟨g, 4, none⟩)) rfl (by kernel_rfl) (by kernel_rfl) (by kernel_rfl) (fun _ _ _ h => h) (Or.inl ⟨rfl, fun w' h => by go_simp; try rfl⟩) hS ?_
  go_simp
  refine wpAnyH_take (i := 5) (v := .string r4) rfl (by kernel_rfl) (by kernel_rfl) (by kernel_rfl) (fun _ _ _ h => h) (Or.inl ⟨rfl, fun w' h => by have c := (RG.out w' h).c4; go_simp; try rfl⟩) hS ?_
  go_simp
  refine wpAnyH_take (i := 7) (v := .slice (some ⟨g, 0, none⟩) 11 c) rfl (by kernel_rfl) (by kernel_rfl) (by kernel_rfl) (fun _ _ _ h => h) (Or.inl ⟨rfl, fun w' h => by have c := (R4.out w' h); go_simp; try rfl⟩) hS ?_
  go_simp
  refine wpAnyH_take (i := 8) (v := .pointer (some ⟨g, 10, none⟩)) rfl (by kernel_rfl) (by kernel_rfl) (by kernel_rfl) (fun _ _ _ h => h) (Or.inl ⟨rfl, fun w' h => by go_simp; try rfl⟩) hS ?_
  go_simp
  refine wpAnyH_take (i := 9) (v := .string r10) rfl (by kernel_rfl) (by kernel_rfl) (by kernel_rfl) (fun _ _ _ h => h) (Or.inl ⟨rfl, fun w' h => by have c := (RG.out w' h).c10; go_simp; try rfl⟩) hS ?_
  go_simp
  refine wpAnyH_ready (rs := [6, 10, 14]) (by kernel_rfl) (by simp) (AllReadyH.cons (o := _) rfl (fun K hK => ?_) (AllReadyH.cons (o := _) rfl (fun K hK => ?_) (AllReadyH.cons (o := _) rfl (fun K hK => ?_) AllReadyH.nil)))
  · go_simp
    refine (get8_any r4 h4 _).mono ?_
    rintro e yC0 ⟨rfl, hy⟩
    refine hK.out _ _ (hS.trans (hy.mono hS.size)) (fun hS => ?_)
    clear hK K hy
    go_simp
    refine wpAnyH_ready (rs := [10, 14]) (by kernel_rfl) (by simp) (AllReadyH.cons (o := _) rfl (fun K hK => ?_) (AllReadyH.cons (o := _) rfl (fun K hK => ?_) AllReadyH.nil))
    · have hcv := Lib.run_convert_string_bytes (P := Tryd.prog) yC0 9 42 5 r10 Tryd.underlying9 Tryd.underlying42 Tryd.underlying5
      go_simp
      have hbW : Below yC0.heap.size yC0 (Lib.bytesWorld yC0 5 r10) := bytes_below (Below.refl _ _) (Nat.le_refl _) 5 r10
      have hq0 := held_bytes yC0 r10
      refine hK.out _ _ (hS.trans (hbW.mono hS.size)) (fun hS => ?_)
      clear hK K hcv
      refine any_abs (fun yV1 HW => ?_)
      have hq : Held yV1 yC0.heap.size (Lib.byteCells r10.data.toList) := by rw [HW.out]; exact hq0
      replace hS : Below D.heap.size D yV1 := by rw [HW.out]; exact hS
      clear HW hbW hq0 
      go_simp
      refine wpAnyH_take (i := 11) (v := .pointer (some ⟨yC0.heap.size, 0, none⟩)) rfl (by kernel_rfl) (by kernel_rfl) (by kernel_rfl) (fun _ _ _ h => h) (Or.inl ⟨rfl, fun w' h => by go_simp; try rfl⟩) hS ?_
      go_simp
      refine wpAnyH_ready (rs := [12, 14]) (by kernel_rfl) (by simp) (AllReadyH.cons (o := _) rfl (fun K hK => ?_) (AllReadyH.cons (o := _) rfl (fun K hK => ?_) AllReadyH.nil))
      · have hld := load_sum hq hX10
        refine wp_load_list 26 (.tmp 52) rfl _ 0 rfl _ hld ?_
        refine hK.out _ _ hS (fun hS => ?_)
        clear hK K hld hq
        go_simp
        refine wpAnyH_take (i := 13) (v := .agg (snL (sA r1 0 0 ((getU r4.data.toList : Nat) : Int) 0 0 r10.data.toList) (.slice none 0 0) (.slice none 0 0) (.slice none 0 0)).toArray) rfl (by kernel_rfl) (by kernel_rfl) (by kernel_rfl) (fun _ _ _ h => h) (yi_build3 rfl 28 0 3 7 (.tmp 43) (.tmp 47) (.tmp 53) rfl (.string r1) (.int .u64 ((getU r4.data.toList : Nat) : Int)) (.agg (Lib.byteCells r10.data.toList).toArray) rfl rfl rfl _ (built28 r1 _ _ hX10)) hS ?_
        go_simp
        refine wpAnyH_ready (rs := [14]) (by kernel_rfl) (by simp) (AllReadyH.cons (o := _) rfl (fun K hK => ?_) AllReadyH.nil)
        · go_simp
          have hGp := hS.size
          have hp0 := Row.new yV1 (snL sn0 (.slice none 0 0) (.slice none 0 0) (.slice none 0 0)).toArray 28
          have hbA := (Below.refl yV1.heap.size yV1).alloc (Nat.le_refl _) (.cells (snL sn0 (.slice none 0 0) (.slice none 0 0) (.slice none 0 0)).toArray 28)
          refine hK.out _ _ (hS.alloc hS.size _) (fun hS => ?_)
          clear hK K
          refine any_abs (fun yA4 HW => ?_)
          have hp : Row yA4 yV1.heap.size 28 (snL sn0 (.slice none 0 0) (.slice none 0 0) (.slice none 0 0)).toArray := by rw [HW.out]; exact hp0
          replace hS : Below D.heap.size D yA4 := by rw [HW.out]; exact hS
          clear HW hp0 hbA 
          go_simp
          refine wpAnyH_ready (rs := [15]) (by kernel_rfl) (by simp) (AllReadyH.cons (o := _) rfl (fun K hK => ?_) AllReadyH.nil)
          refine wp_store_row 28 (.tmp 6) (.tmp 54) rfl yV1.heap.size (snL (sA r1 0 0 ((getU r4.data.toList : Nat) : Int) 0 0 r10.data.toList) (.slice none 0 0) (.slice none 0 0) (.slice none 0 0)).toArray rfl rfl 28 _ hp (size28 _ hX10 _ _ _) (hold28 hX10) (all_oneCell_toArray (snL_one _ rfl rfl rfl)) ?_
          refine hK.out _ _ (below_row hS hGp _) (fun hS => ?_)
          clear hK K
          go_simp
          refine wpAnyH_done (by kernel_rfl) ?_ _
          refine hMet _ _ (Met.intro (hJ _ _ ?_))
          (repeat apply Exists.intro)
          refine ⟨?_, rfl⟩
          exact ⟨yV1.heap.size, D, rfl, hp.row, hDD, hS, hGp⟩
      · go_simp
        have hGp := hS.size
        have hp0 := Row.new yV1 (snL sn0 (.slice none 0 0) (.slice none 0 0) (.slice none 0 0)).toArray 28
        have hbA := (Below.refl yV1.heap.size yV1).alloc (Nat.le_refl _) (.cells (snL sn0 (.slice none 0 0) (.slice none 0 0) (.slice none 0 0)).toArray 28)
        have hq0 := hq.below hbA
        refine hK.out _ _ (hS.alloc hS.size _) (fun hS => ?_)
        clear hK K
        refine any_abs (fun yA2 HW => ?_)
        have hp : Row yA2 yV1.heap.size 28 (snL sn0 (.slice none 0 0) (.slice none 0 0) (.slice none 0 0)).toArray := by rw [HW.out]; exact hp0
        replace hq : Held yA2 yC0.heap.size (Lib.byteCells r10.data.toList) := by rw [HW.out]; exact hq0
        replace hS : Below D.heap.size D yA2 := by rw [HW.out]; exact hS
        clear HW hp0 hbA hq0
        go_simp
        refine wpAnyH_ready (rs := [12]) (by kernel_rfl) (by simp) (AllReadyH.cons (o := _) rfl (fun K hK => ?_) AllReadyH.nil)
        · have hld := load_sum hq hX10
          refine wp_load_list 26 (.tmp 52) rfl _ 0 rfl _ hld ?_
          refine hK.out _ _ hS (fun hS => ?_)
          clear hK K hld hq
          go_simp
          refine wpAnyH_take (i := 13) (v := .agg (snL (sA r1 0 0 ((getU r4.data.toList : Nat) : Int) 0 0 r10.data.toList) (.slice none 0 0) (.slice none 0 0) (.slice none 0 0)).toArray) rfl (by kernel_rfl) (by kernel_rfl) (by kernel_rfl) (fun _ _ _ h => h) (yi_build3 rfl 28 0 3 7 (.tmp 43) (.tmp 47) (.tmp 53) rfl (.string r1) (.int .u64 ((getU r4.data.toList : Nat) : Int)) (.agg (Lib.byteCells r10.data.toList).toArray) rfl rfl rfl _ (built28 r1 _ _ hX10)) hS ?_
          go_simp
          refine wpAnyH_ready (rs := [15]) (by kernel_rfl) (by simp) (AllReadyH.cons (o := _) rfl (fun K hK => ?_) AllReadyH.nil)
          refine wp_store_row 28 (.tmp 6) (.tmp 54) rfl yV1.heap.size (snL (sA r1 0 0 ((getU r4.data.toList : Nat) : Int) 0 0 r10.data.toList) (.slice none 0 0) (.slice none 0 0) (.slice none 0 0)).toArray rfl rfl 28 _ hp (size28 _ hX10 _ _ _) (hold28 hX10) (all_oneCell_toArray (snL_one _ rfl rfl rfl)) ?_
          refine hK.out _ _ (below_row hS hGp _) (fun hS => ?_)
          clear hK K
          go_simp
          refine wpAnyH_done (by kernel_rfl) ?_ _
          refine hMet _ _ (Met.intro (hJ _ _ ?_))
          (repeat apply Exists.intro)
          refine ⟨?_, rfl⟩
          exact ⟨yV1.heap.size, D, rfl, hp.row, hDD, hS, hGp⟩
    · go_simp
      have hGp := hS.size
      have hp0 := Row.new yC0 (snL sn0 (.slice none 0 0) (.slice none 0 0) (.slice none 0 0)).toArray 28
      have hbA := (Below.refl yC0.heap.size yC0).alloc (Nat.le_refl _) (.cells (snL sn0 (.slice none 0 0) (.slice none 0 0) (.slice none 0 0)).toArray 28)
      refine hK.out _ _ (hS.alloc hS.size _) (fun hS => ?_)
      clear hK K
      refine any_abs (fun yA1 HW => ?_)
      have hp : Row yA1 yC0.heap.size 28 (snL sn0 (.slice none 0 0) (.slice none 0 0) (.slice none 0 0)).toArray := by rw [HW.out]; exact hp0
      replace hS : Below D.heap.size D yA1 := by rw [HW.out]; exact hS
      clear HW hp0 hbA 
      go_simp
      refine wpAnyH_ready (rs := [10]) (by kernel_rfl) (by simp) (AllReadyH.cons (o := _) rfl (fun K hK => ?_) AllReadyH.nil)
      · have hcv := Lib.run_convert_string_bytes (P := Tryd.prog) yA1 9 42 5 r10 Tryd.underlying9 Tryd.underlying42 Tryd.underlying5
        go_simp
        have hbW : Below yA1.heap.size yA1 (Lib.bytesWorld yA1 5 r10) := bytes_below (Below.refl _ _) (Nat.le_refl _) 5 r10
        have hq0 := held_bytes yA1 r10
        have hp0 := hp.below hbW hp.lt
        refine hK.out _ _ (hS.trans (hbW.mono hS.size)) (fun hS => ?_)
        clear hK K hcv
        refine any_abs (fun yV2 HW => ?_)
        have hq : Held yV2 yA1.heap.size (Lib.byteCells r10.data.toList) := by rw [HW.out]; exact hq0
        replace hp : Row yV2 yC0.heap.size 28 (snL sn0 (.slice none 0 0) (.slice none 0 0) (.slice none 0 0)).toArray := by rw [HW.out]; exact hp0
        replace hS : Below D.heap.size D yV2 := by rw [HW.out]; exact hS
        clear HW hbW hq0 hp0
        go_simp
        refine wpAnyH_take (i := 11) (v := .pointer (some ⟨yA1.heap.size, 0, none⟩)) rfl (by kernel_rfl) (by kernel_rfl) (by kernel_rfl) (fun _ _ _ h => h) (Or.inl ⟨rfl, fun w' h => by go_simp; try rfl⟩) hS ?_
        go_simp
        refine wpAnyH_ready (rs := [12]) (by kernel_rfl) (by simp) (AllReadyH.cons (o := _) rfl (fun K hK => ?_) AllReadyH.nil)
        · have hld := load_sum hq hX10
          refine wp_load_list 26 (.tmp 52) rfl _ 0 rfl _ hld ?_
          refine hK.out _ _ hS (fun hS => ?_)
          clear hK K hld hq
          go_simp
          refine wpAnyH_take (i := 13) (v := .agg (snL (sA r1 0 0 ((getU r4.data.toList : Nat) : Int) 0 0 r10.data.toList) (.slice none 0 0) (.slice none 0 0) (.slice none 0 0)).toArray) rfl (by kernel_rfl) (by kernel_rfl) (by kernel_rfl) (fun _ _ _ h => h) (yi_build3 rfl 28 0 3 7 (.tmp 43) (.tmp 47) (.tmp 53) rfl (.string r1) (.int .u64 ((getU r4.data.toList : Nat) : Int)) (.agg (Lib.byteCells r10.data.toList).toArray) rfl rfl rfl _ (built28 r1 _ _ hX10)) hS ?_
          go_simp
          refine wpAnyH_ready (rs := [15]) (by kernel_rfl) (by simp) (AllReadyH.cons (o := _) rfl (fun K hK => ?_) AllReadyH.nil)
          refine wp_store_row 28 (.tmp 6) (.tmp 54) rfl yC0.heap.size (snL (sA r1 0 0 ((getU r4.data.toList : Nat) : Int) 0 0 r10.data.toList) (.slice none 0 0) (.slice none 0 0) (.slice none 0 0)).toArray rfl rfl 28 _ hp (size28 _ hX10 _ _ _) (hold28 hX10) (all_oneCell_toArray (snL_one _ rfl rfl rfl)) ?_
          refine hK.out _ _ (below_row hS hGp _) (fun hS => ?_)
          clear hK K
          go_simp
          refine wpAnyH_done (by kernel_rfl) ?_ _
          refine hMet _ _ (Met.intro (hJ _ _ ?_))
          (repeat apply Exists.intro)
          refine ⟨?_, rfl⟩
          exact ⟨yC0.heap.size, D, rfl, hp.row, hDD, hS, hGp⟩
  · have hcv := Lib.run_convert_string_bytes (P := Tryd.prog) D 9 42 5 r10 Tryd.underlying9 Tryd.underlying42 Tryd.underlying5
    go_simp
    have hbW : Below D.heap.size D (Lib.bytesWorld D 5 r10) := bytes_below (Below.refl _ _) (Nat.le_refl _) 5 r10
    have hq0 := held_bytes D r10
    refine hK.out _ _ (hS.trans (hbW.mono hS.size)) (fun hS => ?_)
    clear hK K hcv
    refine any_abs (fun yV0 HW => ?_)
    have hq : Held yV0 D.heap.size (Lib.byteCells r10.data.toList) := by rw [HW.out]; exact hq0
    replace hS : Below D.heap.size D yV0 := by rw [HW.out]; exact hS
    clear HW hbW hq0 
    go_simp
    refine wpAnyH_take (i := 11) (v := .pointer (some ⟨D.heap.size, 0, none⟩)) rfl (by kernel_rfl) (by kernel_rfl) (by kernel_rfl) (fun _ _ _ h => h) (Or.inl ⟨rfl, fun w' h => by go_simp; try rfl⟩) hS ?_
    go_simp
    refine wpAnyH_ready (rs := [6, 12, 14]) (by kernel_rfl) (by simp) (AllReadyH.cons (o := _) rfl (fun K hK => ?_) (AllReadyH.cons (o := _) rfl (fun K hK => ?_) (AllReadyH.cons (o := _) rfl (fun K hK => ?_) AllReadyH.nil)))
    · go_simp
      refine (get8_any r4 h4 _).mono ?_
      rintro e yC1 ⟨rfl, hy⟩
      replace hq := hq.below hy
      refine hK.out _ _ (hS.trans (hy.mono hS.size)) (fun hS => ?_)
      clear hK K hy
      go_simp
      refine wpAnyH_ready (rs := [12, 14]) (by kernel_rfl) (by simp) (AllReadyH.cons (o := _) rfl (fun K hK => ?_) (AllReadyH.cons (o := _) rfl (fun K hK => ?_) AllReadyH.nil))
      · have hld := load_sum hq hX10
        refine wp_load_list 26 (.tmp 52) rfl _ 0 rfl _ hld ?_
        refine hK.out _ _ hS (fun hS => ?_)
        clear hK K hld hq
        go_simp
        refine wpAnyH_take (i := 13) (v := .agg (snL (sA r1 0 0 ((getU r4.data.toList : Nat) : Int) 0 0 r10.data.toList) (.slice none 0 0) (.slice none 0 0) (.slice none 0 0)).toArray) rfl (by kernel_rfl) (by kernel_rfl) (by kernel_rfl) (fun _ _ _ h => h) (yi_build3 rfl 28 0 3 7 (.tmp 43) (.tmp 47) (.tmp 53) rfl (.string r1) (.int .u64 ((getU r4.data.toList : Nat) : Int)) (.agg (Lib.byteCells r10.data.toList).toArray) rfl rfl rfl _ (built28 r1 _ _ hX10)) hS ?_
        go_simp
        refine wpAnyH_ready (rs := [14]) (by kernel_rfl) (by simp) (AllReadyH.cons (o := _) rfl (fun K hK => ?_) AllReadyH.nil)
        · go_simp
          have hGp := hS.size
          have hp0 := Row.new yC1 (snL sn0 (.slice none 0 0) (.slice none 0 0) (.slice none 0 0)).toArray 28
          have hbA := (Below.refl yC1.heap.size yC1).alloc (Nat.le_refl _) (.cells (snL sn0 (.slice none 0 0) (.slice none 0 0) (.slice none 0 0)).toArray 28)
          refine hK.out _ _ (hS.alloc hS.size _) (fun hS => ?_)
          clear hK K
          refine any_abs (fun yA4 HW => ?_)
          have hp : Row yA4 yC1.heap.size 28 (snL sn0 (.slice none 0 0) (.slice none 0 0) (.slice none 0 0)).toArray := by rw [HW.out]; exact hp0
          replace hS : Below D.heap.size D yA4 := by rw [HW.out]; exact hS
          clear HW hp0 hbA 
          go_simp
          refine wpAnyH_ready (rs := [15]) (by kernel_rfl) (by simp) (AllReadyH.cons (o := _) rfl (fun K hK => ?_) AllReadyH.nil)
          refine wp_store_row 28 (.tmp 6) (.tmp 54) rfl yC1.heap.size (snL (sA r1 0 0 ((getU r4.data.toList : Nat) : Int) 0 0 r10.data.toList) (.slice none 0 0) (.slice none 0 0) (.slice none 0 0)).toArray rfl rfl 28 _ hp (size28 _ hX10 _ _ _) (hold28 hX10) (all_oneCell_toArray (snL_one _ rfl rfl rfl)) ?_
          refine hK.out _ _ (below_row hS hGp _) (fun hS => ?_)
          clear hK K
          go_simp
          refine wpAnyH_done (by kernel_rfl) ?_ _
          refine hMet _ _ (Met.intro (hJ _ _ ?_))
          (repeat apply Exists.intro)
          refine ⟨?_, rfl⟩
          exact ⟨yC1.heap.size, D, rfl, hp.row, hDD, hS, hGp⟩
      · go_simp
        have hGp := hS.size
        have hp0 := Row.new yC1 (snL sn0 (.slice none 0 0) (.slice none 0 0) (.slice none 0 0)).toArray 28
        have hbA := (Below.refl yC1.heap.size yC1).alloc (Nat.le_refl _) (.cells (snL sn0 (.slice none 0 0) (.slice none 0 0) (.slice none 0 0)).toArray 28)
        have hq0 := hq.below hbA
        refine hK.out _ _ (hS.alloc hS.size _) (fun hS => ?_)
        clear hK K
        refine any_abs (fun yA2 HW => ?_)
        have hp : Row yA2 yC1.heap.size 28 (snL sn0 (.slice none 0 0) (.slice none 0 0) (.slice none 0 0)).toArray := by rw [HW.out]; exact hp0
        replace hq : Held yA2 D.heap.size (Lib.byteCells r10.data.toList) := by rw [HW.out]; exact hq0
        replace hS : Below D.heap.size D yA2 := by rw [HW.out]; exact hS
        clear HW hp0 hbA hq0
        go_simp
        refine wpAnyH_ready (rs := [12]) (by kernel_rfl) (by simp) (AllReadyH.cons (o := _) rfl (fun K hK => ?_) AllReadyH.nil)
        · have hld := load_sum hq hX10
          refine wp_load_list 26 (.tmp 52) rfl _ 0 rfl _ hld ?_
          refine hK.out _ _ hS (fun hS => ?_)
          clear hK K hld hq
          go_simp
          refine wpAnyH_take (i := 13) (v := .agg (snL (sA r1 0 0 ((getU r4.data.toList : Nat) : Int) 0 0 r10.data.toList) (.slice none 0 0) (.slice none 0 0) (.slice none 0 0)).toArray) rfl (by kernel_rfl) (by kernel_rfl) (by kernel_rfl) (fun _ _ _ h => h) (yi_build3 rfl 28 0 3 7 (.tmp 43) (.tmp 47) (.tmp 53) rfl (.string r1) (.int .u64 ((getU r4.data.toList : Nat) : Int)) (.agg (Lib.byteCells r10.data.toList).toArray) rfl rfl rfl _ (built28 r1 _ _ hX10)) hS ?_
          go_simp
          refine wpAnyH_ready (rs := [15]) (by kernel_rfl) (by simp) (AllReadyH.cons (o := _) rfl (fun K hK => ?_) AllReadyH.nil)
          refine wp_store_row 28 (.tmp 6) (.tmp 54) rfl yC1.heap.size (snL (sA r1 0 0 ((getU r4.data.toList : Nat) : Int) 0 0 r10.data.toList) (.slice none 0 0) (.slice none 0 0) (.slice none 0 0)).toArray rfl rfl 28 _ hp (size28 _ hX10 _ _ _) (hold28 hX10) (all_oneCell_toArray (snL_one _ rfl rfl rfl)) ?_
          refine hK.out _ _ (below_row hS hGp _) (fun hS => ?_)
          clear hK K
          go_simp
          refine wpAnyH_done (by kernel_rfl) ?_ _
          refine hMet _ _ (Met.intro (hJ _ _ ?_))
          (repeat apply Exists.intro)
          refine ⟨?_, rfl⟩
          exact ⟨yC1.heap.size, D, rfl, hp.row, hDD, hS, hGp⟩
    · have hld := load_sum hq hX10
      refine wp_load_list 26 (.tmp 52) rfl _ 0 rfl _ hld ?_
      refine hK.out _ _ hS (fun hS => ?_)
      clear hK K hld hq
      go_simp
      refine wpAnyH_ready (rs := [6, 14]) (by kernel_rfl) (by simp) (AllReadyH.cons (o := _) rfl (fun K hK => ?_) (AllReadyH.cons (o := _) rfl (fun K hK => ?_) AllReadyH.nil))
      · go_simp
        refine (get8_any r4 h4 _).mono ?_
        rintro e yC2 ⟨rfl, hy⟩
        refine hK.out _ _ (hS.trans (hy.mono hS.size)) (fun hS => ?_)
        clear hK K hy
        go_simp
        refine wpAnyH_take (i := 13) (v := .agg (snL (sA r1 0 0 ((getU r4.data.toList : Nat) : Int) 0 0 r10.data.toList) (.slice none 0 0) (.slice none 0 0) (.slice none 0 0)).toArray) rfl (by kernel_rfl) (by kernel_rfl) (by kernel_rfl) (fun _ _ _ h => h) (yi_build3 rfl 28 0 3 7 (.tmp 43) (.tmp 47) (.tmp 53) rfl (.string r1) (.int .u64 ((getU r4.data.toList : Nat) : Int)) (.agg (Lib.byteCells r10.data.toList).toArray) rfl rfl rfl _ (built28 r1 _ _ hX10)) hS ?_
        go_simp
        refine wpAnyH_ready (rs := [14]) (by kernel_rfl) (by simp) (AllReadyH.cons (o := _) rfl (fun K hK => ?_) AllReadyH.nil)
        · go_simp
          have hGp := hS.size
          have hp0 := Row.new yC2 (snL sn0 (.slice none 0 0) (.slice none 0 0) (.slice none 0 0)).toArray 28
          have hbA := (Below.refl yC2.heap.size yC2).alloc (Nat.le_refl _) (.cells (snL sn0 (.slice none 0 0) (.slice none 0 0) (.slice none 0 0)).toArray 28)
          refine hK.out _ _ (hS.alloc hS.size _) (fun hS => ?_)
          clear hK K
          refine any_abs (fun yA4 HW => ?_)
          have hp : Row yA4 yC2.heap.size 28 (snL sn0 (.slice none 0 0) (.slice none 0 0) (.slice none 0 0)).toArray := by rw [HW.out]; exact hp0
          replace hS : Below D.heap.size D yA4 := by rw [HW.out]; exact hS
          clear HW hp0 hbA 
          go_simp
          refine wpAnyH_ready (rs := [15]) (by kernel_rfl) (by simp) (AllReadyH.cons (o := _) rfl (fun K hK => ?_) AllReadyH.nil)
          refine wp_store_row 28 (.tmp 6) (.tmp 54) rfl yC2.heap.size (snL (sA r1 0 0 ((getU r4.data.toList : Nat) : Int) 0 0 r10.data.toList) (.slice none 0 0) (.slice none 0 0) (.slice none 0 0)).toArray rfl rfl 28 _ hp (size28 _ hX10 _ _ _) (hold28 hX10) (all_oneCell_toArray (snL_one _ rfl rfl rfl)) ?_
          refine hK.out _ _ (below_row hS hGp _) (fun hS => ?_)
          clear hK K
          go_simp
          refine wpAnyH_done (by kernel_rfl) ?_ _
          refine hMet _ _ (Met.intro (hJ _ _ ?_))
          (repeat apply Exists.intro)
          refine ⟨?_, rfl⟩
          exact ⟨yC2.heap.size, D, rfl, hp.row, hDD, hS, hGp⟩
      · go_simp
        have hGp := hS.size
        have hp0 := Row.new yV0 (snL sn0 (.slice none 0 0) (.slice none 0 0) (.slice none 0 0)).toArray 28
        have hbA := (Below.refl yV0.heap.size yV0).alloc (Nat.le_refl _) (.cells (snL sn0 (.slice none 0 0) (.slice none 0 0) (.slice none 0 0)).toArray 28)
        refine hK.out _ _ (hS.alloc hS.size _) (fun hS => ?_)
        clear hK K
        refine any_abs (fun yA2 HW => ?_)
        have hp : Row yA2 yV0.heap.size 28 (snL sn0 (.slice none 0 0) (.slice none 0 0) (.slice none 0 0)).toArray := by rw [HW.out]; exact hp0
        replace hS : Below D.heap.size D yA2 := by rw [HW.out]; exact hS
        clear HW hp0 hbA 
        go_simp
        refine wpAnyH_ready (rs := [6]) (by kernel_rfl) (by simp) (AllReadyH.cons (o := _) rfl (fun K hK => ?_) AllReadyH.nil)
        · go_simp
          refine (get8_any r4 h4 _).mono ?_
          rintro e yC3 ⟨rfl, hy⟩
          replace hp := hp.below hy hp.lt
          refine hK.out _ _ (hS.trans (hy.mono hS.size)) (fun hS => ?_)
          clear hK K hy
          go_simp
          refine wpAnyH_take (i := 13) (v := .agg (snL (sA r1 0 0 ((getU r4.data.toList : Nat) : Int) 0 0 r10.data.toList) (.slice none 0 0) (.slice none 0 0) (.slice none 0 0)).toArray) rfl (by kernel_rfl) (by kernel_rfl) (by kernel_rfl) (fun _ _ _ h => h) (yi_build3 rfl 28 0 3 7 (.tmp 43) (.tmp 47) (.tmp 53) rfl (.string r1) (.int .u64 ((getU r4.data.toList : Nat) : Int)) (.agg (Lib.byteCells r10.data.toList).toArray) rfl rfl rfl _ (built28 r1 _ _ hX10)) hS ?_
          go_simp
          refine wpAnyH_ready (rs := [15]) (by kernel_rfl) (by simp) (AllReadyH.cons (o := _) rfl (fun K hK => ?_) AllReadyH.nil)
          refine wp_store_row 28 (.tmp 6) (.tmp 54) rfl yV0.heap.size (snL (sA r1 0 0 ((getU r4.data.toList : Nat) : Int) 0 0 r10.data.toList) (.slice none 0 0) (.slice none 0 0) (.slice none 0 0)).toArray rfl rfl 28 _ hp (size28 _ hX10 _ _ _) (hold28 hX10) (all_oneCell_toArray (snL_one _ rfl rfl rfl)) ?_
          refine hK.out _ _ (below_row hS hGp _) (fun hS => ?_)
          clear hK K
          go_simp
          refine wpAnyH_done (by kernel_rfl) ?_ _
          refine hMet _ _ (Met.intro (hJ _ _ ?_))
          (repeat apply Exists.intro)
          refine ⟨?_, rfl⟩
          exact ⟨yV0.heap.size, D, rfl, hp.row, hDD, hS, hGp⟩
    · go_simp
      have hGp := hS.size
      have hp0 := Row.new yV0 (snL sn0 (.slice none 0 0) (.slice none 0 0) (.slice none 0 0)).toArray 28
      have hbA := (Below.refl yV0.heap.size yV0).alloc (Nat.le_refl _) (.cells (snL sn0 (.slice none 0 0) (.slice none 0 0) (.slice none 0 0)).toArray 28)
      have hq0 := hq.below hbA
      refine hK.out _ _ (hS.alloc hS.size _) (fun hS => ?_)
      clear hK K
      refine any_abs (fun yA1 HW => ?_)
      have hp : Row yA1 yV0.heap.size 28 (snL sn0 (.slice none 0 0) (.slice none 0 0) (.slice none 0 0)).toArray := by rw [HW.out]; exact hp0
      replace hq : Held yA1 D.heap.size (Lib.byteCells r10.data.toList) := by rw [HW.out]; exact hq0
      replace hS : Below D.heap.size D yA1 := by rw [HW.out]; exact hS
      clear HW hp0 hbA hq0
      go_simp
      refine wpAnyH_ready (rs := [6, 12]) (by kernel_rfl) (by simp) (AllReadyH.cons (o := _) rfl (fun K hK => ?_) (AllReadyH.cons (o := _) rfl (fun K hK => ?_) AllReadyH.nil))
      · go_simp
        refine (get8_any r4 h4 _).mono ?_
        rintro e yC2 ⟨rfl, hy⟩
        replace hq := hq.below hy
        replace hp := hp.below hy hp.lt
        refine hK.out _ _ (hS.trans (hy.mono hS.size)) (fun hS => ?_)
        clear hK K hy
        go_simp
        refine wpAnyH_ready (rs := [12]) (by kernel_rfl) (by simp) (AllReadyH.cons (o := _) rfl (fun K hK => ?_) AllReadyH.nil)
        · have hld := load_sum hq hX10
          refine wp_load_list 26 (.tmp 52) rfl _ 0 rfl _ hld ?_
          refine hK.out _ _ hS (fun hS => ?_)
          clear hK K hld hq
          go_simp
          refine wpAnyH_take (i := 13) (v := .agg (snL (sA r1 0 0 ((getU r4.data.toList : Nat) : Int) 0 0 r10.data.toList) (.slice none 0 0) (.slice none 0 0) (.slice none 0 0)).toArray) rfl (by kernel_rfl) (by kernel_rfl) (by kernel_rfl) (fun _ _ _ h => h) (yi_build3 rfl 28 0 3 7 (.tmp 43) (.tmp 47) (.tmp 53) rfl (.string r1) (.int .u64 ((getU r4.data.toList : Nat) : Int)) (.agg (Lib.byteCells r10.data.toList).toArray) rfl rfl rfl _ (built28 r1 _ _ hX10)) hS ?_
          go_simp
          refine wpAnyH_ready (rs := [15]) (by kernel_rfl) (by simp) (AllReadyH.cons (o := _) rfl (fun K hK => ?_) AllReadyH.nil)
          refine wp_store_row 28 (.tmp 6) (.tmp 54) rfl yV0.heap.size (snL (sA r1 0 0 ((getU r4.data.toList : Nat) : Int) 0 0 r10.data.toList) (.slice none 0 0) (.slice none 0 0) (.slice none 0 0)).toArray rfl rfl 28 _ hp (size28 _ hX10 _ _ _) (hold28 hX10) (all_oneCell_toArray (snL_one _ rfl rfl rfl)) ?_
          refine hK.out _ _ (below_row hS hGp _) (fun hS => ?_)
          clear hK K
          go_simp
          refine wpAnyH_done (by kernel_rfl) ?_ _
          refine hMet _ _ (Met.intro (hJ _ _ ?_))
          (repeat apply Exists.intro)
          refine ⟨?_, rfl⟩
          exact ⟨yV0.heap.size, D, rfl, hp.row, hDD, hS, hGp⟩
      · have hld := load_sum hq hX10
        refine wp_load_list 26 (.tmp 52) rfl _ 0 rfl _ hld ?_
        refine hK.out _ _ hS (fun hS => ?_)
        clear hK K hld hq
        go_simp
        refine wpAnyH_ready (rs := [6]) (by kernel_rfl) (by simp) (AllReadyH.cons (o := _) rfl (fun K hK => ?_) AllReadyH.nil)
        · go_simp
          refine (get8_any r4 h4 _).mono ?_
          rintro e yC3 ⟨rfl, hy⟩
          replace hp := hp.below hy hp.lt
          refine hK.out _ _ (hS.trans (hy.mono hS.size)) (fun hS => ?_)
          clear hK K hy
          go_simp
          refine wpAnyH_take (i := 13) (v := .agg (snL (sA r1 0 0 ((getU r4.data.toList : Nat) : Int) 0 0 r10.data.toList) (.slice none 0 0) (.slice none 0 0) (.slice none 0 0)).toArray) rfl (by kernel_rfl) (by kernel_rfl) (by kernel_rfl) (fun _ _ _ h => h) (yi_build3 rfl 28 0 3 7 (.tmp 43) (.tmp 47) (.tmp 53) rfl (.string r1) (.int .u64 ((getU r4.data.toList : Nat) : Int)) (.agg (Lib.byteCells r10.data.toList).toArray) rfl rfl rfl _ (built28 r1 _ _ hX10)) hS ?_
          go_simp
          refine wpAnyH_ready (rs := [15]) (by kernel_rfl) (by simp) (AllReadyH.cons (o := _) rfl (fun K hK => ?_) AllReadyH.nil)
          refine wp_store_row 28 (.tmp 6) (.tmp 54) rfl yV0.heap.size (snL (sA r1 0 0 ((getU r4.data.toList : Nat) : Int) 0 0 r10.data.toList) (.slice none 0 0) (.slice none 0 0) (.slice none 0 0)).toArray rfl rfl 28 _ hp (size28 _ hX10 _ _ _) (hold28 hX10) (all_oneCell_toArray (snL_one _ rfl rfl rfl)) ?_
          refine hK.out _ _ (below_row hS hGp _) (fun hS => ?_)
          clear hK K
          go_simp
          refine wpAnyH_done (by kernel_rfl) ?_ _
          refine hMet _ _ (Met.intro (hJ _ _ ?_))
          (repeat apply Exists.intro)
          refine ⟨?_, rfl⟩
          exact ⟨yV0.heap.size, D, rfl, hp.row, hDD, hS, hGp⟩
  · go_simp
    have hGp := hS.size
    have hp0 := Row.new D (snL sn0 (.slice none 0 0) (.slice none 0 0) (.slice none 0 0)).toArray 28
    have hbA := (Below.refl D.heap.size D).alloc (Nat.le_refl _) (.cells (snL sn0 (.slice none 0 0) (.slice none 0 0) (.slice none 0 0)).toArray 28)
    refine hK.out _ _ (hS.alloc hS.size _) (fun hS => ?_)
    clear hK K
    refine any_abs (fun yA0 HW => ?_)
    have hp : Row yA0 D.heap.size 28 (snL sn0 (.slice none 0 0) (.slice none 0 0) (.slice none 0 0)).toArray := by rw [HW.out]; exact hp0
    replace hS : Below D.heap.size D yA0 := by rw [HW.out]; exact hS
    clear HW hp0 hbA 
    go_simp
    refine wpAnyH_ready (rs := [6, 10]) (by kernel_rfl) (by simp) (AllReadyH.cons (o := _) rfl (fun K hK => ?_) (AllReadyH.cons (o := _) rfl (fun K hK => ?_) AllReadyH.nil))
    · go_simp
      refine (get8_any r4 h4 _).mono ?_
      rintro e yC1 ⟨rfl, hy⟩
      replace hp := hp.below hy hp.lt
      refine hK.out _ _ (hS.trans (hy.mono hS.size)) (fun hS => ?_)
      clear hK K hy
      go_simp
      refine wpAnyH_ready (rs := [10]) (by kernel_rfl) (by simp) (AllReadyH.cons (o := _) rfl (fun K hK => ?_) AllReadyH.nil)
      · have hcv := Lib.run_convert_string_bytes (P := Tryd.prog) yC1 9 42 5 r10 Tryd.underlying9 Tryd.underlying42 Tryd.underlying5
        go_simp
        have hbW : Below yC1.heap.size yC1 (Lib.bytesWorld yC1 5 r10) := bytes_below (Below.refl _ _) (Nat.le_refl _) 5 r10
        have hq0 := held_bytes yC1 r10
        have hp0 := hp.below hbW hp.lt
        refine hK.out _ _ (hS.trans (hbW.mono hS.size)) (fun hS => ?_)
        clear hK K hcv
        refine any_abs (fun yV2 HW => ?_)
        have hq : Held yV2 yC1.heap.size (Lib.byteCells r10.data.toList) := by rw [HW.out]; exact hq0
        replace hp : Row yV2 D.heap.size 28 (snL sn0 (.slice none 0 0) (.slice none 0 0) (.slice none 0 0)).toArray := by rw [HW.out]; exact hp0
        replace hS : Below D.heap.size D yV2 := by rw [HW.out]; exact hS
        clear HW hbW hq0 hp0
        go_simp
        refine wpAnyH_take (i := 11) (v := .pointer (some ⟨yC1.heap.size, 0, none⟩)) rfl (by kernel_rfl) (by kernel_rfl) (by kernel_rfl) (fun _ _ _ h => h) (Or.inl ⟨rfl, fun w' h => by go_simp; try rfl⟩) hS ?_
        go_simp
        refine wpAnyH_ready (rs := [12]) (by kernel_rfl) (by simp) (AllReadyH.cons (o := _) rfl (fun K hK => ?_) AllReadyH.nil)
        · have hld := load_sum hq hX10
          refine wp_load_list 26 (.tmp 52) rfl _ 0 rfl _ hld ?_
          refine hK.out _ _ hS (fun hS => ?_)
          clear hK K hld hq
          go_simp
          refine wpAnyH_take (i := 13) (v := .agg (snL (sA r1 0 0 ((getU r4.data.toList : Nat) : Int) 0 0 r10.data.toList) (.slice none 0 0) (.slice none 0 0) (.slice none 0 0)).toArray) rfl (by kernel_rfl) (by kernel_rfl) (by kernel_rfl) (fun _ _ _ h => h) (yi_build3 rfl 28 0 3 7 (.tmp 43) (.tmp 47) (.tmp 53) rfl (.string r1) (.int .u64 ((getU r4.data.toList : Nat) : Int)) (.agg (Lib.byteCells r10.data.toList).toArray) rfl rfl rfl _ (built28 r1 _ _ hX10)) hS ?_
          go_simp
          refine wpAnyH_ready (rs := [15]) (by kernel_rfl) (by simp) (AllReadyH.cons (o := _) rfl (fun K hK => ?_) AllReadyH.nil)
          refine wp_store_row 28 (.tmp 6) (.tmp 54) rfl D.heap.size (snL (sA r1 0 0 ((getU r4.data.toList : Nat) : Int) 0 0 r10.data.toList) (.slice none 0 0) (.slice none 0 0) (.slice none 0 0)).toArray rfl rfl 28 _ hp (size28 _ hX10 _ _ _) (hold28 hX10) (all_oneCell_toArray (snL_one _ rfl rfl rfl)) ?_
          refine hK.out _ _ (below_row hS hGp _) (fun hS => ?_)
          clear hK K
          go_simp
          refine wpAnyH_done (by kernel_rfl) ?_ _
          refine hMet _ _ (Met.intro (hJ _ _ ?_))
          (repeat apply Exists.intro)
          refine ⟨?_, rfl⟩
          exact ⟨D.heap.size, D, rfl, hp.row, hDD, hS, hGp⟩
    · have hcv := Lib.run_convert_string_bytes (P := Tryd.prog) yA0 9 42 5 r10 Tryd.underlying9 Tryd.underlying42 Tryd.underlying5
      go_simp
      have hbW : Below yA0.heap.size yA0 (Lib.bytesWorld yA0 5 r10) := bytes_below (Below.refl _ _) (Nat.le_refl _) 5 r10
      have hq0 := held_bytes yA0 r10
      have hp0 := hp.below hbW hp.lt
      refine hK.out _ _ (hS.trans (hbW.mono hS.size)) (fun hS => ?_)
      clear hK K hcv
      refine any_abs (fun yV1 HW => ?_)
      have hq : Held yV1 yA0.heap.size (Lib.byteCells r10.data.toList) := by rw [HW.out]; exact hq0
      replace hp : Row yV1 D.heap.size 28 (snL sn0 (.slice none 0 0) (.slice none 0 0) (.slice none 0 0)).toArray := by rw [HW.out]; exact hp0
      replace hS : Below D.heap.size D yV1 := by rw [HW.out]; exact hS
      clear HW hbW hq0 hp0
      go_simp
      refine wpAnyH_take (i := 11) (v := .pointer (some ⟨yA0.heap.size, 0, none⟩)) rfl (by kernel_rfl) (by kernel_rfl) (by kernel_rfl) (fun _ _ _ h => h) (Or.inl ⟨rfl, fun w' h => by go_simp; try rfl⟩) hS ?_
      go_simp
      refine wpAnyH_ready (rs := [6, 12]) (by kernel_rfl) (by simp) (AllReadyH.cons (o := _) rfl (fun K hK => ?_) (AllReadyH.cons (o := _) rfl (fun K hK => ?_) AllReadyH.nil))
      · go_simp
        refine (get8_any r4 h4 _).mono ?_
        rintro e yC2 ⟨rfl, hy⟩
        replace hq := hq.below hy
        replace hp := hp.below hy hp.lt
        refine hK.out _ _ (hS.trans (hy.mono hS.size)) (fun hS => ?_)
        clear hK K hy
        go_simp
        refine wpAnyH_ready (rs := [12]) (by kernel_rfl) (by simp) (AllReadyH.cons (o := _) rfl (fun K hK => ?_) AllReadyH.nil)
        · have hld := load_sum hq hX10
          refine wp_load_list 26 (.tmp 52) rfl _ 0 rfl _ hld ?_
          refine hK.out _ _ hS (fun hS => ?_)
          clear hK K hld hq
          go_simp
          refine wpAnyH_take (i := 13) (v := .agg (snL (sA r1 0 0 ((getU r4.data.toList : Nat) : Int) 0 0 r10.data.toList) (.slice none 0 0) (.slice none 0 0) (.slice none 0 0)).toArray) rfl (by kernel_rfl) (by kernel_rfl) (by kernel_rfl) (fun _ _ _ h => h) (yi_build3 rfl 28 0 3 7 (.tmp 43) (.tmp 47) (.tmp 53) rfl (.string r1) (.int .u64 ((getU r4.data.toList : Nat) : Int)) (.agg (Lib.byteCells r10.data.toList).toArray) rfl rfl rfl _ (built28 r1 _ _ hX10)) hS ?_
          go_simp
          refine wpAnyH_ready (rs := [15]) (by kernel_rfl) (by simp) (AllReadyH.cons (o := _) rfl (fun K hK => ?_) AllReadyH.nil)
          refine wp_store_row 28 (.tmp 6) (.tmp 54) rfl D.heap.size (snL (sA r1 0 0 ((getU r4.data.toList : Nat) : Int) 0 0 r10.data.toList) (.slice none 0 0) (.slice none 0 0) (.slice none 0 0)).toArray rfl rfl 28 _ hp (size28 _ hX10 _ _ _) (hold28 hX10) (all_oneCell_toArray (snL_one _ rfl rfl rfl)) ?_
          refine hK.out _ _ (below_row hS hGp _) (fun hS => ?_)
          clear hK K
          go_simp
          refine wpAnyH_done (by kernel_rfl) ?_ _
          refine hMet _ _ (Met.intro (hJ _ _ ?_))
          (repeat apply Exists.intro)
          refine ⟨?_, rfl⟩
          exact ⟨D.heap.size, D, rfl, hp.row, hDD, hS, hGp⟩
      · have hld := load_sum hq hX10
        refine wp_load_list 26 (.tmp 52) rfl _ 0 rfl _ hld ?_
        refine hK.out _ _ hS (fun hS => ?_)
        clear hK K hld hq
        go_simp
        refine wpAnyH_ready (rs := [6]) (by kernel_rfl) (by simp) (AllReadyH.cons (o := _) rfl (fun K hK => ?_) AllReadyH.nil)
        · go_simp
          refine (get8_any r4 h4 _).mono ?_
          rintro e yC3 ⟨rfl, hy⟩
          replace hp := hp.below hy hp.lt
          refine hK.out _ _ (hS.trans (hy.mono hS.size)) (fun hS => ?_)
          clear hK K hy
          go_simp
          refine wpAnyH_take (i := 13) (v := .agg (snL (sA r1 0 0 ((getU r4.data.toList : Nat) : Int) 0 0 r10.data.toList) (.slice none 0 0) (.slice none 0 0) (.slice none 0 0)).toArray) rfl (by kernel_rfl) (by kernel_rfl) (by kernel_rfl) (fun _ _ _ h => h) (yi_build3 rfl 28 0 3 7 (.tmp 43) (.tmp 47) (.tmp 53) rfl (.string r1) (.int .u64 ((getU r4.data.toList : Nat) : Int)) (.agg (Lib.byteCells r10.data.toList).toArray) rfl rfl rfl _ (built28 r1 _ _ hX10)) hS ?_
          go_simp
          refine wpAnyH_ready (rs := [15]) (by kernel_rfl) (by simp) (AllReadyH.cons (o := _) rfl (fun K hK => ?_) AllReadyH.nil)
          refine wp_store_row 28 (.tmp 6) (.tmp 54) rfl D.heap.size (snL (sA r1 0 0 ((getU r4.data.toList : Nat) : Int) 0 0 r10.data.toList) (.slice none 0 0) (.slice none 0 0) (.slice none 0 0)).toArray rfl rfl 28 _ hp (size28 _ hX10 _ _ _) (hold28 hX10) (all_oneCell_toArray (snL_one _ rfl rfl rfl)) ?_
          refine hK.out _ _ (below_row hS hGp _) (fun hS => ?_)
          clear hK K
          go_simp
          refine wpAnyH_done (by kernel_rfl) ?_ _
          refine hMet _ _ (Met.intro (hJ _ _ ?_))
          (repeat apply Exists.intro)
          refine ⟨?_, rfl⟩
          exact ⟨D.heap.size, D, rfl, hp.row, hDD, hS, hGp⟩
end Go.Proofs.YtokcmaehojljdaaDoor

/- The reference's Bytes of a snapshot: its walk. -/
namespace Go.Proofs.YtokcmaehojljdaaDoor
open Go.RowKit Go.Shelf Go.Proofs.YtokcmaehojljdaaDoorW.PrintWords Go.Proofs.YtokcmaehojljdaaDoorW.PrintLast Go.Proofs.YtokcmaehojljdaaDoorW.PrintMore
open Cc (g)

/-! ### A digest's text is read as the digest -/
theorem hex_at : ∀ (X : List UInt8) (j : Nat) (u : UInt8), X[j]? = some u → (X.flatMap hx2)[2 * j]? = some (hexT.data.toList.getD (u.toNat / 16) 0) ∧ (X.flatMap hx2)[2 * j + 1]? = some (hexT.data.toList.getD (u.toNat % 16) 0)
  | [], j, u, h => by simp at h
  | v :: X, 0, u, h => by
    simp only [List.getElem?_cons_zero, Option.some.injEq] at h
    subst h
    exact ⟨rfl, rfl⟩
  | v :: X, j + 1, u, h => by
    rw [List.getElem?_cons_succ] at h
    have ih := hex_at X j u h
    have e : (v :: X).flatMap hx2 = hx2 v ++ X.flatMap hx2 := rfl
    have l2 : (hx2 v).length = 2 := rfl
    rw [e, List.getElem?_append_right (by rw [l2]; omega), List.getElem?_append_right (by rw [l2]; omega), l2]
    have e1 : 2 * (j + 1) - 2 = 2 * j := by omega
    have e2 : 2 * (j + 1) + 1 - 2 = 2 * j + 1 := by omega
    rw [e1, e2]
    exact ih
theorem digit_fin : ∀ n : Fin 16, hexI (hexT.data.toList.getD n.val 0).toNat = n.val := by decide +kernel
theorem bytes_at (X : List UInt8) (j : Nat) (u : UInt8) (h : X[j]? = some u) : hexI (g (bytes (hexS X)) (2 * j)) = (u.toNat / 16 : Nat) ∧ hexI (g (bytes (hexS X)) (2 * j + 1)) = (u.toNat % 16 : Nat) := by
  have hu := u.toNat_lt
  obtain ⟨h1, h2⟩ := hex_at X j u h
  have e : bytes (hexS X) = (X.flatMap hx2).map UInt8.toNat := rfl
  have d1 := digit_fin ⟨u.toNat / 16, by omega⟩
  have d2 := digit_fin ⟨u.toNat % 16, by omega⟩
  simp only [] at d1 d2
  unfold g
  rw [e, List.getD_eq_getElem?_getD, List.getD_eq_getElem?_getD, List.getElem?_map, List.getElem?_map, h1, h2]
  exact ⟨d1, d2⟩
theorem hex_ok (X : List UInt8) (hX : X.length = 32) : ofOk (hexS X) = true := by
  unfold ofOk
  have hs : (hexS X).size = 64 := by rw [hexS_len, hX]
  rw [beq_iff_eq.2 hs, Bool.true_and, List.all_eq_true]
  intro j hj
  have hj' := List.mem_range.1 hj
  obtain ⟨h1, h2⟩ := bytes_at X j (X[j]'(by omega)) (List.getElem?_eq_getElem (by omega))
  unfold goodB
  rw [h1, h2, decide_eq_true (Int.natCast_nonneg _), decide_eq_true (Int.natCast_nonneg _)]
  rfl
theorem hex_of (X : List UInt8) (hX : X.length = 32) : ofD (hexS X) = X := by
  rw [ofD, if_pos (hex_ok X hX)]
  unfold dgs
  rw [Nat.sub_self, List.replicate_zero, List.append_nil]
  apply List.ext_getElem (by simp [hX])
  intro j h1 h2
  obtain ⟨e1, e2⟩ := bytes_at X j (X[j]'h2) (List.getElem?_eq_getElem h2)
  rw [List.getElem_map, List.getElem_range]
  unfold dgU
  rw [e1, e2, Int.toNat_natCast, Int.toNat_natCast]
  have : 16 * ((X[j]'h2).toNat / 16) + (X[j]'h2).toNat % 16 = (X[j]'h2).toNat := by omega
  rw [this, UInt8.ofNat_toNat]
theorem digs_sum (X : List UInt8) (hX : X.length = 32) : digs [hexS X] = ⟨X.toArray⟩ := by
  unfold digs
  rw [List.flatMap_cons, List.flatMap_nil, List.append_nil, hex_of X hX]
theorem four_cells {w : World} {g : Nat} {a b c d : ByteArray} (h : Kd.C Kd.string w (some ⟨g, 0, none⟩) [a, b, c, d].length [a, b, c, d]) :
    w.cell? ⟨g, 0, none⟩ = some (.string a) ∧ w.cell? ⟨g, 1, none⟩ = some (.string b) ∧ w.cell? ⟨g, 2, none⟩ = some (.string c) ∧ w.cell? ⟨g, 3, none⟩ = some (.string d) := by
  obtain ⟨a0, e0, h0⟩ := Kd.at_string h 0 (by omega) (by simp)
  cases e0
  obtain ⟨a1, e1, h1⟩ := Kd.at_string h 1 (by omega) (by simp)
  cases e1
  obtain ⟨a2, e2, h2⟩ := Kd.at_string h 2 (by omega) (by simp)
  cases e2
  obtain ⟨a3, e3, h3⟩ := Kd.at_string h 3 (by omega) (by simp)
  cases e3
  exact ⟨h0, h1, h2, h3⟩
def valsS (s : Sn) : List Int := [s.n, s.at_, s.pages, s.blocks]
set_option maxHeartbeats 8000000 in
set_option maxRecDepth 100000 in
theorem rbytes_any (s : Sn) (v0 v1 v2 : Value) (w : World) (h : SnOk w s v0 v1 v2) :
    Calls Tryd.prog 45 #[.agg (snL s v0 v1 v2).toArray] w fun e w' => e = .returned (.tuple #[.string (bytesSn s), .int .i64 (checkSn s)]) ∧ Below w.heap.size w w' := by
  have hs := h.hs
  have hn := h.hn
  have hat := h.hat
  have hc := h.hc
  have hp := h.hp
  have hbk := h.hb
  have hR := Row.new w (snL s v0 v1 v2).toArray 28
  have hb0 := (Below.refl w.heap.size w).alloc (Nat.le_refl _) (.cells (snL s v0 v1 v2).toArray 28)
  go_enter Tryd.func45, Tryd.ntmps45
  go_upto_region 1 with (fail)
  refine wp_abs (fun W HW => ?_)
  rw [← HW.out] at hR hb0
  clear HW
  have hwh := sn_whole hR hs
  go_wp2_with (refine wpList_load_list rfl 28 (.tmp 1) rfl w.heap.size 0 rfl _ hwh ?_)
  clear hwh
  refine (rcheck_any s v0 v1 v2 _ (h.below hb0)).mono ?_
  rintro e w1 ⟨rfl, hb1⟩
  have hR1 : Row w1 w.heap.size 28 _ := hR.below hb1 hR.lt
  replace hb1 := hb0.trans (hb1.mono hb0.size)
  clear hR hb0
  have hby : bytesSn s = if checkSn s = 0 then ⟨(rowU (rowSn s)).toArray⟩ else ⟨#[]⟩ := rfl
  by_cases hck : checkSn s = 0
  · rw [if_pos hck] at hby
    have hln := rowSn_len s hck hs hn hat hp hbk
    have HLN := Sec.mk (fun i hi => Nat.le_trans (lst_le s i hi) (check_zero s hck).2.2.1)
    rw [hck]
    have HBY := Sec.mk hby
    have HCK := Sec.mk hck
    have HRN := Sec.mk hln
    have HVR : Sec (∀ x ∈ valsS s, -9223372036854775808 ≤ x ∧ x ≤ 9223372036854775807) := ⟨fun x hx => by
      simp only [valsS, List.mem_cons, List.not_mem_nil, or_false] at hx
      rcases hx with rfl | rfl | rfl | rfl <;> assumption⟩
    clear hby hck hln hn hat hp hbk
    have hsm := sn_sum hR1 hs
    have hsl : s.sum.length = 32 := hs
    go_wp2_with (refine wpList_load_list rfl 26 (.tmp 14) rfl w.heap.size 9 rfl _ hsm ?_)
    refine (rhex_any s.sum hsl _).mono ?_
    rintro e w2 ⟨rfl, hb2⟩
    have hR2 : Row w2 w.heap.size 28 _ := hR1.below hb2 hR1.lt
    replace hb2 := hb1.trans (hb2.mono hb1.size)
    clear hR1 hb1 hsm
    have hRX := R_new w2 w.heap.size hR2.lt [hexS s.sum] (by simp)
    have hCX := (Kd.R_reads' hRX).2.2
    have hR3 := hR2.alloc (.cells #[.string (hexS s.sum)] 9)
    have hb3 := hb2.alloc hb2.size (.cells #[.string (hexS s.sum)] 9)
    clear hRX
    go_wp2_with fail
    refine (raw_any (some ⟨w2.heap.size, 0, none⟩) 1 [hexS s.sum] _ hCX (by simp)).mono ?_
    rintro e w4 ⟨rfl, hb4⟩
    have hR4 : Row w4 w.heap.size 28 _ := hR3.below hb4 hR3.lt
    replace hb4 := hb3.trans (hb4.mono hb3.size)
    clear hR2 hb2 hR3 hb3 hCX
    rw [digs_sum s.sum hsl]
    have hO5 := R_new w4 w.heap.size hR4.lt [] (by simp)
    have hR5 := hR4.alloc (.cells #[] 9)
    have hb5 := hb4.alloc hb4.size (.cells #[] 9)
    have hNM : w4.heap.size < (w4.alloc (.cells #[] 9)).heap.size := by rw [size_alloc]; omega
    clear hR4 hb4
    go_upto_region 6 with (fail)
    refine wp_abs (fun W5 HW => ?_)
    replace hO5 : Kd.R Kd.string 9 W5 w.heap.size (fun k => k ≠ w.heap.size) (.slice (some ⟨w4.heap.size, 0, none⟩) 0 0) [] := by rw [HW.out]; exact hO5
    replace hR5 : Row W5 w.heap.size 28 (snL s v0 v1 v2).toArray := by rw [HW.out]; exact hR5
    replace hb5 : Below w.heap.size w W5 := by rw [HW.out]; exact hb5
    replace hNM : w4.heap.size < W5.heap.size := by rw [HW.out]; exact hNM
    clear HW
    have RS5 := sn_cells hR5
    have k1 := RS5.k1
    have k2 := RS5.k2
    have k4 := RS5.k4
    have k5 := RS5.k5
    have hRM := Row.new W5 ((valsS s).map (Value.int .i64)).toArray 2
    have hR6 := hR5.alloc (.cells ((valsS s).map (Value.int .i64)).toArray 2)
    have hO6 := Kd.R_alloc hO5 (.cells ((valsS s).map (Value.int .i64)).toArray 2)
    have hb6 := hb5.alloc hb5.size (.cells ((valsS s).map (Value.int .i64)).toArray 2)
    have hlt5 : w.heap.size < W5.heap.size := hR5.lt
    obtain ⟨M, hM⟩ : ∃ M, M = W5.heap.size := ⟨_, rfl⟩
    have HM := Sec.mk hM
    rw [← hM] at hRM hNM hlt5
    clear hR5 hO5 hb5 hM
    go_wp2_with fail
    clear k1 k2 k4 k5 RS5
    rw [← HM.out]
    go_loopw [6, 30] (fun v6 v30 wr => ∃ i : Nat, i ≤ 4 ∧ v30 = .int .i64 i ∧ Kd.R Kd.string 9 wr w.heap.size (fun k => k ≠ w.heap.size) v6 (((valsS s).map dec).take i) ∧ some M ≠ v6.ownBlock ∧ Row wr M 2 ((valsS s).map (Value.int .i64)).toArray ∧ Row wr w.heap.size 28 (snL s v0 v1 v2).toArray ∧ Below w.heap.size w wr) (fun _ v30 _ => 4 - (intOf v30).toNat)
    case atStart => exact ⟨0, by omega, rfl, hO6, (by simp [Value.ownBlock]; omega), hRM, hR6, hb6⟩
    case round =>
      clear hO6 hRM hR6 hb6
      obtain ⟨i, hi, rfl, hO, hne, hRM, hRw, hb⟩ := hrel
      by_cases hlt : i < 4
      · have hd : decide ((i : Int) < 4) = true := decide_eq_true (by omega)
        obtain ⟨x, hx⟩ : ∃ x, (valsS s)[i]? = some x := ⟨(valsS s)[i]'(by show i < 4; omega), List.getElem?_eq_getElem (by show i < 4; omega)⟩
        have hxc : wr.cell? ⟨M, i, none⟩ = some (.int .i64 x) := (hRM.at_ i).trans (by rw [List.getElem?_map, hx]; rfl)
        have hxr := HVR.out x (List.mem_of_getElem? hx)
        have hnx : ((valsS s).map dec).take (i + 1) = ((valsS s).map dec).take i ++ [dec x] := by rw [List.take_add_one, List.getElem?_map, hx]; rfl
        have hll : (((valsS s).map dec).take i).length ≤ 4 := by rw [List.length_take, List.length_map]; omega
        have p1 : (0 ≤ (i : Int)) = True := eq_true (by omega)
        have q1 : ((i : Int) < 4) = True := eq_true (by omega)
        have HNX := Sec.mk hnx
        clear hnx hx
        generalize ((valsS s).map dec).take i = ds at *
        go_wp2_with fail
        refine (rdec_any x hxr.1 hxr.2 _).mono ?_
        rintro e w7 ⟨rfl, hb7⟩
        have hO7 := Kd.R_below hO hb7
        have hM7 : Row w7 M 2 _ := hRM.below hb7 hRM.lt
        have hR7 : Row w7 w.heap.size 28 _ := hRw.below hb7 hRw.lt
        have hb8 := hb.trans (hb7.mono hb.size)
        clear hO hRM hRw hb hb7 hxc
        go_wp2_with ((with_reducible refine gate_builtin (b := .append) (xs := #[.tmp 34, .tmp 37]) rfl ?_); at_builtin; refine Kd.R_append Kd.string (w0 := w) w.heap.size rfl (.tmp 34) (.tmp 37) 23 9 (.string ⟨#[]⟩) 16 rfl Tryd.underlying23 info9 rfl (by decide) (by omega) u6 ds (dec x) [.string (dec x)] (fun k => k ≠ w.heap.size) (fun _ => False) rfl rfl rfl (fun _ hk => hk.elim) (fun k hk => by have := hR7.lt; omega) hO7 hb8 hb8.size (by omega) ?_)
        intro v8 w8 hO8 hb9 hg8 hnew
        have hne2 : some w.heap.size ≠ u6.ownBlock := fun e => hO7.1 _ e.symm rfl
        have hR8 : Row w8 w.heap.size 28 _ := hR7.grown hg8 hne2
        have hM8 : Row w8 M 2 _ := hM7.grown hg8 hne
        have hne8 : some M ≠ v8.ownBlock := by
          rcases hnew with e | ⟨b, e, hbb⟩
          · rw [e]; exact hne
          · rw [e]
            intro e2
            have := hM7.lt
            have : M = b := Option.some.inj e2
            omega
        rw [← HNX.out] at hO8
        clear hO7 hM7 hR7 hb8 hg8 hnew hne2
        go_wp2_with fail
        go_roundw
        case rel => exact ⟨i + 1, by omega, by go_num, hO8, hne8, hM8, hR8, hb9⟩
        case measure => simp [intOf]; omega
      · have hd : decide ((i : Int) < 4) = false := decide_eq_false (by omega)
        obtain rfl : i = 4 := by omega
        have e4 : ((valsS s).map dec).take 4 = [dec s.n, dec s.at_, dec s.pages, dec s.blocks] := rfl
        rw [e4] at hO
        obtain ⟨g, cap, rfl, -, -, -⟩ := Kd.R_form hO (by simp)
        have hC4 := (Kd.R_reads' hO).2.2
        clear hO hne hRM
        go_upto_region 11 with (fail)
        obtain ⟨A, c, e0, e1, e2, hlst⟩ := lists_at h
        subst e0 e1 e2
        obtain ⟨D, hD⟩ : ∃ D, D = wr.drew := ⟨_, rfl⟩
        have hRd : Row wr.drew w.heap.size 28 (snL s (.slice (A 0) (lst s 0).length (c 0)) (.slice (A 1) (lst s 1).length (c 1)) (.slice (A 2) (lst s 2).length (c 2))).toArray := hRw
        have hbd : Below w.heap.size w wr.drew := hb.drew
        have hCd := Kd.C_drew hC4
        rw [← hD] at hRd hbd hCd
        refine wp_region_held_drew (S := Below D.heap.size D) (by kernel_rfl) (by rw [← hD]; exact Below.refl _ _) (fun hS => ?_)
        rw [← hD] at hS ⊢
        clear hD hRw hb hC4
        have RS := Sec.mk (fun w' (h : Below D.heap.size D w') => sn_cells (hRd.below h hRd.lt))
        have RL := Sec.mk (fun (i : Nat) (hi : i < 3) w' (h : Below D.heap.size D w') => Kd.C_below (hlst i hi).2.1 (hbd.trans (h.mono hbd.size)))
        have RD := Sec.mk (fun w' (h : Below D.heap.size D w') => four_cells (Kd.C_below hCd h))
        clear hlst hCd h
        refine wpAnyH_take (i := 0) (v := .pointer (some ⟨w.heap.size, 0, none⟩)) rfl (by kernel_rfl) (by kernel_rfl) (by kernel_rfl) (fun _ _ _ h => h) (Or.inl ⟨rfl, fun w' h => by go_simp; try rfl⟩) hS ?_
        go_simp
        refine wpAnyH_take (i := 1) (v := .string s.mach) rfl (by kernel_rfl) (by kernel_rfl) (by kernel_rfl) (fun _ _ _ h => h) (Or.inl ⟨rfl, fun w' h => by have c := (RS.out w' h).k0; go_simp; try rfl⟩) hS ?_
        go_simp
        refine wpAnyH_take (i := 2) (v := .slice (some ⟨g, 0, none⟩) 4 cap) rfl (by kernel_rfl) (by kernel_rfl) (by kernel_rfl) (fun _ _ _ h => h) (Or.inl ⟨rfl, fun w' h => by go_simp; try rfl⟩) hS ?_
        go_simp
        refine wpAnyH_take (i := 3) (v := .pointer (some ⟨g, 0, none⟩)) rfl (by kernel_rfl) (by kernel_rfl) (by kernel_rfl) (fun _ _ _ h => h) (Or.inl ⟨rfl, fun w' h => by go_simp; try rfl⟩) hS ?_
        go_simp
        refine wpAnyH_take (i := 4) (v := .string (dec s.n)) rfl (by kernel_rfl) (by kernel_rfl) (by kernel_rfl) (fun _ _ _ h => h) (Or.inl ⟨rfl, fun w' h => by have c := (RD.out w' h).1; go_simp; try rfl⟩) hS ?_
        go_simp
        refine wpAnyH_take (i := 5) (v := .slice (some ⟨g, 0, none⟩) 4 cap) rfl (by kernel_rfl) (by kernel_rfl) (by kernel_rfl) (fun _ _ _ h => h) (Or.inl ⟨rfl, fun w' h => by go_simp; try rfl⟩) hS ?_
        go_simp
        refine wpAnyH_take (i := 6) (v := .pointer (some ⟨g, 1, none⟩)) rfl (by kernel_rfl) (by kernel_rfl) (by kernel_rfl) (fun _ _ _ h => h) (Or.inl ⟨rfl, fun w' h => by go_simp; try rfl⟩) hS ?_
        go_simp
        refine wpAnyH_take (i := 7) (v := .string (dec s.at_)) rfl (by kernel_rfl) (by kernel_rfl) (by kernel_rfl) (fun _ _ _ h => h) (Or.inl ⟨rfl, fun w' h => by have c := (RD.out w' h).2.1; go_simp; try rfl⟩) hS ?_
        go_simp
        refine wpAnyH_take (i := 8) (v := .pointer (some ⟨w.heap.size, 3, none⟩)) rfl (by kernel_rfl) (by kernel_rfl) (by kernel_rfl) (fun _ _ _ h => h) (Or.inl ⟨rfl, fun w' h => by go_simp; try rfl⟩) hS ?_
        go_simp
        refine wpAnyH_take (i := 9) (v := .int .u64 s.clock) rfl (by kernel_rfl) (by kernel_rfl) (by kernel_rfl) (fun _ _ _ h => h) (Or.inl ⟨rfl, fun w' h => by have c := (RS.out w' h).k3; go_simp; try rfl⟩) hS ?_
        go_simp
        refine wpAnyH_take (i := 11) (v := .slice (some ⟨g, 0, none⟩) 4 cap) rfl (by kernel_rfl) (by kernel_rfl) (by kernel_rfl) (fun _ _ _ h => h) (Or.inl ⟨rfl, fun w' h => by go_simp; try rfl⟩) hS ?_
        go_simp
        refine wpAnyH_take (i := 12) (v := .pointer (some ⟨g, 2, none⟩)) rfl (by kernel_rfl) (by kernel_rfl) (by kernel_rfl) (fun _ _ _ h => h) (Or.inl ⟨rfl, fun w' h => by go_simp; try rfl⟩) hS ?_
        go_simp
        refine wpAnyH_take (i := 13) (v := .string (dec s.pages)) rfl (by kernel_rfl) (by kernel_rfl) (by kernel_rfl) (fun _ _ _ h => h) (Or.inl ⟨rfl, fun w' h => by have c := (RD.out w' h).2.2.1; go_simp; try rfl⟩) hS ?_
        go_simp
        refine wpAnyH_take (i := 14) (v := .slice (some ⟨g, 0, none⟩) 4 cap) rfl (by kernel_rfl) (by kernel_rfl) (by kernel_rfl) (fun _ _ _ h => h) (Or.inl ⟨rfl, fun w' h => by go_simp; try rfl⟩) hS ?_
        go_simp
        refine wpAnyH_take (i := 15) (v := .pointer (some ⟨g, 3, none⟩)) rfl (by kernel_rfl) (by kernel_rfl) (by kernel_rfl) (fun _ _ _ h => h) (Or.inl ⟨rfl, fun w' h => by go_simp; try rfl⟩) hS ?_
        go_simp
        refine wpAnyH_take (i := 16) (v := .string (dec s.blocks)) rfl (by kernel_rfl) (by kernel_rfl) (by kernel_rfl) (fun _ _ _ h => h) (Or.inl ⟨rfl, fun w' h => by have c := (RD.out w' h).2.2.2; go_simp; try rfl⟩) hS ?_
        go_simp
        refine wpAnyH_take (i := 17) (v := .pointer (some ⟨w.heap.size, 6, none⟩)) rfl (by kernel_rfl) (by kernel_rfl) (by kernel_rfl) (fun _ _ _ h => h) (Or.inl ⟨rfl, fun w' h => by go_simp; try rfl⟩) hS ?_
        go_simp
        refine wpAnyH_take (i := 18) (v := .pointer (some ⟨w.heap.size, 6, none⟩)) rfl (by kernel_rfl) (by kernel_rfl) (by kernel_rfl) (fun _ _ _ h => h) (Or.inl ⟨rfl, fun w' h => by go_simp; try rfl⟩) hS ?_
        go_simp
        refine wpAnyH_take (i := 19) (v := .slice (A 0) (lst s 0).length (c 0)) rfl (by kernel_rfl) (by kernel_rfl) (by kernel_rfl) (fun _ _ _ h => h) (Or.inl ⟨rfl, fun w' h => by have c := (RS.out w' h).k6; go_simp; try rfl⟩) hS ?_
        go_simp
        refine wpAnyH_take (i := 21) (v := .pointer (some ⟨w.heap.size, 6, none⟩)) rfl (by kernel_rfl) (by kernel_rfl) (by kernel_rfl) (fun _ _ _ h => h) (Or.inl ⟨rfl, fun w' h => by go_simp; try rfl⟩) hS ?_
        go_simp
        refine wpAnyH_take (i := 22) (v := .pointer (some ⟨w.heap.size, 7, none⟩)) rfl (by kernel_rfl) (by kernel_rfl) (by kernel_rfl) (fun _ _ _ h => h) (Or.inl ⟨rfl, fun w' h => by go_simp; try rfl⟩) hS ?_
        go_simp
        refine wpAnyH_take (i := 23) (v := .slice (A 1) (lst s 1).length (c 1)) rfl (by kernel_rfl) (by kernel_rfl) (by kernel_rfl) (fun _ _ _ h => h) (Or.inl ⟨rfl, fun w' h => by have c := (RS.out w' h).k7; go_simp; try rfl⟩) hS ?_
        go_simp
        refine wpAnyH_take (i := 25) (v := .pointer (some ⟨w.heap.size, 6, none⟩)) rfl (by kernel_rfl) (by kernel_rfl) (by kernel_rfl) (fun _ _ _ h => h) (Or.inl ⟨rfl, fun w' h => by go_simp; try rfl⟩) hS ?_
        go_simp
        refine wpAnyH_take (i := 26) (v := .pointer (some ⟨w.heap.size, 8, none⟩)) rfl (by kernel_rfl) (by kernel_rfl) (by kernel_rfl) (fun _ _ _ h => h) (Or.inl ⟨rfl, fun w' h => by go_simp; try rfl⟩) hS ?_
        go_simp
        refine wpAnyH_take (i := 27) (v := .slice (A 2) (lst s 2).length (c 2)) rfl (by kernel_rfl) (by kernel_rfl) (by kernel_rfl) (fun _ _ _ h => h) (Or.inl ⟨rfl, fun w' h => by have c := (RS.out w' h).k8; go_simp; try rfl⟩) hS ?_
        go_simp
        refine wpAnyH_take (i := 29) (v := .string ⟨s.sum.toArray⟩) rfl (by kernel_rfl) (by kernel_rfl) (by kernel_rfl) (fun _ _ _ h => h) (Or.inl ⟨rfl, fun w' h => by go_simp; try rfl⟩) hS ?_
        go_simp
        refine wpAnyH_ready (rs := [10]) (by kernel_rfl) (by simp) (AllReadyH.cons (o := _) rfl (fun K hK => ?_) AllReadyH.nil)
        go_simp
        refine (rput_any s.clock hc.1 hc.2 _).mono ?_
        rintro e y1 ⟨rfl, hy⟩
        refine hK.out _ _ (hS.trans (hy.mono hS.size)) (fun hS => ?_)
        clear hK K hy
        go_simp
        refine wpAnyH_ready (rs := [20]) (by kernel_rfl) (by simp) (AllReadyH.cons (o := _) rfl (fun K hK => ?_) AllReadyH.nil)
        go_simp
        refine (raw_any (A 0) (c 0) (lst s 0) _ (RL.out 0 (by omega) _ hS) (HLN.out 0 (by omega))).mono ?_
        rintro e y2 ⟨rfl, hy⟩
        refine hK.out _ _ (hS.trans (hy.mono hS.size)) (fun hS => ?_)
        clear hK K hy
        go_simp
        refine wpAnyH_ready (rs := [24]) (by kernel_rfl) (by simp) (AllReadyH.cons (o := _) rfl (fun K hK => ?_) AllReadyH.nil)
        go_simp
        refine (raw_any (A 1) (c 1) (lst s 1) _ (RL.out 1 (by omega) _ hS) (HLN.out 1 (by omega))).mono ?_
        rintro e y3 ⟨rfl, hy⟩
        refine hK.out _ _ (hS.trans (hy.mono hS.size)) (fun hS => ?_)
        clear hK K hy
        go_simp
        refine wpAnyH_ready (rs := [28]) (by kernel_rfl) (by simp) (AllReadyH.cons (o := _) rfl (fun K hK => ?_) AllReadyH.nil)
        go_simp
        refine (raw_any (A 2) (c 2) (lst s 2) _ (RL.out 2 (by omega) _ hS) (HLN.out 2 (by omega))).mono ?_
        rintro e y4 ⟨rfl, hy⟩
        refine hK.out _ _ (hS.trans (hy.mono hS.size)) (fun hS => ?_)
        clear hK K hy
        go_simp
        refine wpAnyH_ready (rs := [30]) (by kernel_rfl) (by simp) (AllReadyH.cons (o := _) rfl (fun K hK => ?_) AllReadyH.nil)
        go_simp
        have hGs := hS.size
        have hRN := R_new y4 w.heap.size (Nat.lt_of_lt_of_le hRd.lt hGs) (rowSn s) (by rw [rowSn_eq]; simp)
        have hCN := (Kd.R_reads' hRN).2.2
        refine hK.out _ _ (hS.alloc hS.size _) (fun hS => ?_)
        clear hK K
        go_simp
        refine wpAnyH_ready (rs := [31]) (by kernel_rfl) (by simp) (AllReadyH.cons (o := _) rfl (fun K hK => ?_) AllReadyH.nil)
        go_simp
        have hrr := rrow_any (some ⟨y4.heap.size, 0, none⟩) (rowSn s).length (rowSn s) _ hCN (Nat.le_refl _) (by rw [rowSn_eq]; simp) (by have := HRN.out; omega)
        refine hrr.mono ?_
        rintro e y5 ⟨rfl, hy⟩
        refine hK.out _ _ (hS.trans (hy.mono hS.size)) (fun hS => ?_)
        clear hK K hy hrr hRN hCN
        obtain ⟨RU, hRU⟩ : ∃ RU, RU = rowU (rowSn s) := ⟨_, rfl⟩
        rw [← hRU]
        have HRU := Sec.mk hRU
        clear hRU
        go_simp
        refine wpAnyH_take (i := 32) (v := .string ⟨RU.toArray⟩) rfl (by kernel_rfl) (by kernel_rfl) (by kernel_rfl) (fun _ _ _ h => h) (Or.inl ⟨rfl, fun w' h => by go_simp; try rfl⟩) hS ?_
        go_simp
        refine wpAnyH_take (i := 33) (v := .int .i64 0) rfl (by kernel_rfl) (by kernel_rfl) (by kernel_rfl) (fun _ _ _ h => h) (Or.inl ⟨rfl, fun w' h => by go_simp; try rfl⟩) hS ?_
        go_simp
        refine wpAnyH_done (by kernel_rfl) ?_ _
        go_wp2_with fail
        go_ret2
        exact ⟨by rw [HBY.out, HCK.out, HRU.out]; rfl, hbd.trans (hS.mono hbd.size)⟩
  · rw [if_neg hck] at hby
    have HBY := Sec.mk hby
    have HCK := Sec.mk hck
    clear hby hck
    generalize hcz : checkSn s = z at HCK ⊢
    have HCZ := Sec.mk hcz
    clear hcz
    have hz : (z != 0) = true := bne_iff_ne.2 HCK.out
    have hz2 : ¬ z = 0 := HCK.out
    go_wp2_with fail
    go_ret2
    have e9 : checkSn s = z := HCZ.out
    exact ⟨by rw [HBY.out, e9]; rfl, hb1⟩
end Go.Proofs.YtokcmaehojljdaaDoor

/- The reference's plain and alone: their walks. -/
namespace Go.Proofs.YtokcmaehojljdaaDoor
open Go.RowKit Go.Shelf Go.Proofs.YtokcmaehojljdaaDoorW.PrintWords Go.Proofs.YtokcmaehojljdaaDoorW.PrintLast Go.Proofs.YtokcmaehojljdaaDoorW.PrintMore

theorem load_bytes {w : World} {b : Nat} {X : List UInt8} (h : Row w b 26 (Lib.byteCells X).toArray) (hX : X.length = 32) : (loadVar 26 ⟨b, 0, none⟩).run Tryd.prog w = .ok (.agg (Lib.byteCells X).toArray) w :=
  run_load_list (P := Tryd.prog) w b 0 26 26 (Lib.byteCells X) (Lib.byteCells X) _ h (fun j v hv => by rw [Nat.zero_add]; exact hv) Tryd.underlying26 rfl (by rw [Lib.byteCells_length, hX]; kernel_rfl)
set_option maxHeartbeats 4000000 in
set_option maxRecDepth 100000 in
theorem plain_any (s : Sn) (v0 v1 v2 : Value) (w : World) (h : SnOk w s v0 v1 v2) :
    Calls Tryd.prog 50 #[.agg (snL s v0 v1 v2).toArray] w fun e w' => e = .returned (.bool (emptyB s)) ∧ Below w.heap.size w w' := by
  obtain ⟨A0, c0, rfl, _, _, n0, _⟩ := h.h0
  obtain ⟨A1, c1, rfl, _, _, n1, _⟩ := h.h1
  obtain ⟨A2, c2, rfl, _, _, n2, _⟩ := h.h2
  have hs := h.hs
  clear h
  have e0 := Sec.mk (fun W => sum_eq W s.sum (List.replicate 32 0) hs (by decide))
  have hR := Row.new w (snL s (.slice A0 s.l0.length c0) (.slice A1 s.l1.length c1) (.slice A2 s.l2.length c2)).toArray 28
  have hb0 := (Below.refl w.heap.size w).alloc (Nat.le_refl _) (.cells (snL s (.slice A0 s.l0.length c0) (.slice A1 s.l1.length c1) (.slice A2 s.l2.length c2)).toArray 28)
  go_enter Tryd.func50, Tryd.ntmps50
  go_upto_region 1 with (fail)
  refine wp_abs (fun W HW => ?_)
  rw [← HW.out] at hR hb0
  clear HW
  have hb1 := below_row (hb0.alloc hb0.size (.cells (Lib.byteCells (List.replicate 32 0)).toArray 26)) hb0.size (Lib.byteCells (List.replicate 32 0)).toArray
  have hR1 := (hR.alloc (.cells (Lib.byteCells (List.replicate 32 0)).toArray 26)).rowOther (Nat.ne_of_lt hR.lt) (Lib.byteCells (List.replicate 32 0)).toArray
  have hZ := (Row.new W (Lib.byteCells (List.replicate 32 0)).toArray 26).row (C := (Lib.byteCells (List.replicate 32 0)).toArray)
  go_upto_region 2 with (refine wpList_store_row rfl 26 (.tmp 3) (.tmp 4) rfl W.heap.size (Lib.byteCells (List.replicate 32 0)).toArray rfl rfl 26 _ (Row.new W (Lib.byteCells (List.replicate 32 0)).toArray 26) (i26 _ (by simp)) rfl (byteCells_all _) ?_)
  refine wp_abs (fun W2 HW => ?_)
  replace hR1 : Row W2 w.heap.size 28 (snL s (.slice A0 s.l0.length c0) (.slice A1 s.l1.length c1) (.slice A2 s.l2.length c2)).toArray := by rw [HW.out]; exact hR1
  replace hZ : Row W2 W.heap.size 26 (Lib.byteCells (List.replicate 32 0)).toArray := by rw [HW.out]; exact hZ
  replace hb1 : Below w.heap.size w W2 := by rw [HW.out]; exact hb1
  clear HW hR hb0
  have hsum := sn_sum hR1 hs
  have hzl := load_bytes hZ (by simp)
  obtain ⟨k0, k1, k2, k3, k4, k5, k6, k7, k8⟩ := sn_cells hR1
  clear hR1 hZ
  obtain ⟨B, hB⟩ : ∃ B, B = W.heap.size := ⟨_, rfl⟩
  rw [← hB] at hzl ⊢
  clear hB
  obtain ⟨Z, hZ0⟩ : ∃ Z : List UInt8, Z = List.replicate 32 0 := ⟨_, rfl⟩
  rw [← hZ0] at hzl e0
  have HZ := Sec.mk hZ0
  clear hZ0
  have HE : Sec (emptyB s = (((s.l0.length : Int) + s.l1.length + s.l2.length == 0) && (s.mach.toList == []) && (s.n == 0) && (s.at_ == 0) && (s.clock == 0) && (s.pages == 0) && (s.blocks == 0) && (s.sum == Z))) := ⟨by rw [HZ.out]; rfl⟩
  clear HZ
  obtain ⟨b0, q0⟩ : ∃ b : Bool, (s.mach.toList == ([] : List UInt8)) = b := ⟨_, rfl⟩
  rw [q0] at HE
  obtain ⟨b1, q1⟩ : ∃ b : Bool, (s.n == 0) = b := ⟨_, rfl⟩
  rw [q1] at HE
  obtain ⟨b2, q2⟩ : ∃ b : Bool, (s.at_ == 0) = b := ⟨_, rfl⟩
  rw [q2] at HE
  obtain ⟨b3, q3⟩ : ∃ b : Bool, (s.clock == 0) = b := ⟨_, rfl⟩
  rw [q3] at HE
  obtain ⟨b4, q4⟩ : ∃ b : Bool, (s.pages == 0) = b := ⟨_, rfl⟩
  rw [q4] at HE
  obtain ⟨b5, q5⟩ : ∃ b : Bool, (s.blocks == 0) = b := ⟨_, rfl⟩
  rw [q5] at HE
  obtain ⟨b6, q6⟩ : ∃ b : Bool, ((s.l0.length : Int) + s.l1.length + s.l2.length == 0) = b := ⟨_, rfl⟩
  rw [q6] at HE
  cases b0 with
  | false =>
    go_wp2_with fail
    go_ret
    exact ⟨by rw [HE.out]; simp, hb1⟩
  | true =>
  cases b1 with
  | false =>
    go_wp2_with fail
    go_ret
    exact ⟨by rw [HE.out]; simp, hb1⟩
  | true =>
  cases b2 with
  | false =>
    go_wp2_with fail
    go_ret
    exact ⟨by rw [HE.out]; simp, hb1⟩
  | true =>
  cases b3 with
  | false =>
    go_wp2_with fail
    go_ret
    exact ⟨by rw [HE.out]; simp, hb1⟩
  | true =>
  cases b4 with
  | false =>
    go_wp2_with fail
    go_ret
    exact ⟨by rw [HE.out]; simp, hb1⟩
  | true =>
  cases b5 with
  | false =>
    go_wp2_with fail
    go_ret
    exact ⟨by rw [HE.out]; simp, hb1⟩
  | true =>
  cases b6 with
  | false =>
    go_wp2_with fail
    go_ret
    exact ⟨by rw [HE.out]; simp, hb1⟩
  | true =>
  go_wp2_with (first | refine wpList_load_list rfl 26 (.tmp 51) rfl w.heap.size 9 rfl _ hsum ?_ | refine wpList_load_list rfl 26 (.tmp 3) rfl B 0 rfl _ hzl ?_ | refine wpList_value (v := .bool (s.sum == Z)) rfl (run_exec_eql W2 rfl rfl rfl (by kernel_rfl) (e0.out W2)) ?_)
  go_ret
  exact ⟨by rw [HE.out]; simp, hb1⟩
end Go.Proofs.YtokcmaehojljdaaDoor
