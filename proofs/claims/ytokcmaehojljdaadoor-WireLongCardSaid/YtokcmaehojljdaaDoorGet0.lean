/- wire.Get at bytes that are no row of two texts: its walk. -/
import Derived.Test.YtokcmaehojljdaaDoorCuts0
import Derived.Test.YtokcmaehojljdaaDoorAwake
namespace Go.Proofs.YtokcmaehojljdaaDoor
open Go.RowKit Go.Shelf Go.Proofs.YtokcmaehojljdaaDoorW.PrintWords Go.Proofs.YtokcmaehojljdaaDoorW.PrintLast Go.Proofs.YtokcmaehojljdaaDoorW.PrintMore

def ms0 : Ms := ⟨0, ⟨#[]⟩, sn0, 0, 0⟩
theorem ms0_ok (w : World) : MsOk w ms0 (.slice none 0 0) (.slice none 0 0) (.slice none 0 0) :=
  ⟨⟨texts_nil w, texts_nil w, texts_nil w, by decide, by decide, by decide, by decide, by decide, by decide, by decide⟩, by decide, by decide, by decide, by decide⟩
theorem texts_f (s : ByteArray) (hs : s.size ≤ 1000000000) : PGet.num_Texts.f (s.size + 14) s = some ((ofRow s).1, (((ofRow s).2 : Nat) : Int)) :=
  texts_pure (s.size + 1) (s.size + 14) s [] (by omega) (by omega) (by omega) (by simp; omega)
theorem texts_any (s : ByteArray) (hs : s.size ≤ 1000000000) (w : World) : Calls Tryd.prog 29 #[.string s] w fun e w' => (∃ A c, e = .returned (.tuple #[.slice A (ofRow s).1.length c, .int .i64 (((ofRow s).2 : Nat) : Int)]) ∧ (ofRow s).1.length ≤ c ∧ Kd.C Kd.string w' A (ofRow s).1.length (ofRow s).1) ∧ Below w.heap.size w w' := by
  refine (PGet.num_Texts.calls _ s _ _ w (texts_f s hs)).mono ?_
  rintro e w' ⟨v, rfl, hR, hb⟩
  obtain ⟨A, c, rfl, hc, hC⟩ := Kd.R_reads hR
  exact ⟨⟨A, c, rfl, hc, hC⟩, hb⟩
theorem size0 : (Tryd.prog.info? 31).map (·.size) = some (msL ms0 (.slice none 0 0) (.slice none 0 0) (.slice none 0 0)).toArray.size := by
  rw [List.size_toArray, msL_len (by decide)]; kernel_rfl
theorem one0 : (msL ms0 (.slice none 0 0) (.slice none 0 0) (.slice none 0 0)).toArray.all (·.oneCell') = true := by kernel_rfl
/-- What Get hands back: the message that lies in its own block, and the error. -/
theorem get_ret {W : World} {b : Nat} {m : Ms} {v0 v1 v2 : Value} (h : Row W b 31 (msL m v0 v1 v2).toArray) (hs : m.snap.sum.length = 32) (e : Int) (act : Act) (hd : act.defers = [])
    (h2 : act.tmps.getD 2 undef = (.pointer (some ⟨b, 0, none⟩))) (h3 : act.tmps.getD 3 undef = (.int .i64 e)) (Q : Ending → World → Prop) (hQ : Q (.returned (.tuple #[.agg (msL m v0 v1 v2).toArray, .int .i64 e])) W) :
    bodyPost Tryd.prog Tryd.f15 Q Exit.ret act W := by
  refine bodyPost_ret (v := .tuple #[.agg (msL m v0 v1 v2).toArray, .int .i64 e]) ?_ hd hQ
  rw [results_cell_tmp rfl, h2, h3]
  have hl := ms_whole h hs
  simp [asAddr, hl]
set_option maxHeartbeats 4000000 in
set_option maxRecDepth 100000 in
theorem get_not2 (s : ByteArray) (hs : s.size ≤ 1000000000) (hn : Not2 s) (w : World) :
    Calls Tryd.prog 15 #[.string s] w fun e w' => e = .returned (.tuple #[.agg (msL ms0 (.slice none 0 0) (.slice none 0 0) (.slice none 0 0)).toArray, .int .i64 3]) ∧ Below w.heap.size w w' := by
  have HT := Sec.mk (fun w => texts_any s hs w)
  have hM := Row.new w (msL ms0 (.slice none 0 0) (.slice none 0 0) (.slice none 0 0)).toArray 31
  have hb0 := (Below.refl w.heap.size w).alloc (Nat.le_refl _) (.cells (msL ms0 (.slice none 0 0) (.slice none 0 0) (.slice none 0 0)).toArray 31)
  go_enter Tryd.func15, Tryd.ntmps15
  go_upto_region 1 with (fail)
  refine wp_abs (fun W HW => ?_)
  replace hM : Row W w.heap.size 31 (msL ms0 (.slice none 0 0) (.slice none 0 0) (.slice none 0 0)).toArray := by rw [HW.out]; exact hM
  replace hb0 : Below w.heap.size w W := by rw [HW.out]; exact hb0
  clear HW
  go_wp2_with fail
  refine (HT.out W).mono ?_
  rintro e w1 ⟨⟨A, c, rfl, hc, hC⟩, hb1⟩
  have hM1 := hM.below hb1 hM.lt
  replace hb1 := hb0.trans (hb1.mono hb0.size)
  clear hM hb0
  have HC := Sec.mk hC
  clear hC
  have HB := Sec.mk hb1
  obtain ⟨n, hn1⟩ : ∃ n, n = (ofRow s).1.length := ⟨_, rfl⟩
  obtain ⟨e, he1⟩ : ∃ e, e = (ofRow s).2 := ⟨_, rfl⟩
  unfold Not2 at hn
  rw [← hn1, ← he1] at hn ⊢
  clear hn1 he1 hb1
  by_cases h0 : e = 0
  · subst h0
    have h2 : n ≠ 2 := by simpa using hn
    have hd : ((n : Int) != 2) = true := bne_iff_ne.2 (by omega)
    clear hn h2
    go_wp2_with (refine wpList_store_row rfl 31 (.tmp 2) (.tmp 25) rfl w.heap.size (msL ms0 (.slice none 0 0) (.slice none 0 0) (.slice none 0 0)).toArray rfl rfl 31 _ hM1 size0 rfl one0 ?_)
    exact get_ret hM1.row (by decide) 3 _ rfl rfl rfl _ ⟨rfl, below_row HB.out (Nat.le_refl _) _⟩
  · have hd : ((e : Int) != 0) = true := bne_iff_ne.2 (by omega)
    clear hn h0
    go_wp2_with (refine wpList_store_row rfl 31 (.tmp 2) (.tmp 25) rfl w.heap.size (msL ms0 (.slice none 0 0) (.slice none 0 0) (.slice none 0 0)).toArray rfl rfl 31 _ hM1 size0 rfl one0 ?_)
    exact get_ret hM1.row (by decide) 3 _ rfl rfl rfl _ ⟨rfl, below_row HB.out (Nat.le_refl _) _⟩
end Go.Proofs.YtokcmaehojljdaaDoor
