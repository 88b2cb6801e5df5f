/- wire.Get at a row of two texts: its walk. -/
import Derived.Test.YtokcmaehojljdaaDoorGet0
import Derived.Test.YtokcmaehojljdaaDoorPureApart
import Derived.Laws.CopyRow
namespace Go.Proofs.YtokcmaehojljdaaDoor
open Go.RowKit Go.Shelf Go.Proofs.YtokcmaehojljdaaDoorW.PrintWords Go.Proofs.YtokcmaehojljdaaDoorW.PrintLast Go.Proofs.YtokcmaehojljdaaDoorW.PrintMore

/-- A store of some cells into a row. -/
theorem run_store_part {P : Program} (w : World) (g o : Nat) (t ty : TypeId) (old V : List Value) (hg : Row w g t old.toArray) (hi : (P.info? ty).map (·.size) = some V.length) (hl : o + V.length ≤ old.length) (h1 : ∀ v ∈ V, v.oneCell' = true) :
    (storeVar ty ⟨g, o, none⟩ (.agg V.toArray)).run P w = .ok () (w.setRow g (old.take o ++ V ++ old.drop (o + V.length)).toArray) := by
  have := run_storeCells_at (P := P) g o t V 0 old.toArray w hg (by simpa using hl) h1
  cases hq : P.info? ty with
  | none => simp [hq] at hi
  | some i =>
    have hs : V.length = i.size := by simp [hq] at hi; omega
    simp only [Nat.add_zero] at this
    simp [storeVar, sizeOf, typeInfo, hq, Value.cells, hs, this]
theorem wpList_store_part {P : Program} {ops : Array Oper} {rest : List Oper} {o : Oper} {a : Act} {w : World} {Q : Exit → Act → World → Prop} (hgd : o.guard = none) (ty : TypeId) (x y : Operand) (ho : o.op = .store ty x y)
    (g off : Nat) (V : List Value) (hx : a.eval x = .pointer (some ⟨g, off, none⟩)) (hy : a.eval y = .agg V.toArray) (t : TypeId) (old : List Value) (hg : Row w g t old.toArray)
    (hi : (P.info? ty).map (·.size) = some V.length) (hl : off + V.length ≤ old.length) (h1 : ∀ v ∈ V, v.oneCell' = true)
    (h : wpList P ops Q rest (a.put o.dst undef) (w.setRow g (old.take off ++ V ++ old.drop (off + V.length)).toArray)) : wpList P ops Q (o :: rest) a w :=
  wpList_plain hgd fun K hK => by
    unfold Oper.wp execOp
    simp only [ho, hx, hy, Instr.storeAt, Instr.sureAddr, Sem.run_bind, Sem.run_pure, Result.andThen_ok, run_store_part (P := P) w g off t ty old V hg hi hl h1]
    exact hK _ _ h
/-- The message of a row of two texts. -/
def getM (k : Int) (d : ByteArray) (S : Sn) (n : Int) : Ms :=
  if k = 3 then ⟨k, ⟨#[]⟩, S, 0, 0⟩ else if k = 1 ∨ k = 2 then ⟨k, d, sn0, 0, 0⟩ else if k = 4 then ⟨k, ⟨#[]⟩, sn0, n, 0⟩ else if k = 5 then ⟨k, ⟨#[]⟩, sn0, 0, n⟩ else ⟨k, ⟨#[]⟩, sn0, 0, 0⟩
theorem int_range (s : ByteArray) : -9223372036854775808 ≤ (int s).1 ∧ (int s).1 ≤ 9223372036854775807 := by
  have hi : int s = match Lib.parseIntB 64 s.data.toList with
    | .ok v => if Lib.itoa v = s.data.toList then (v, true) else (0, false)
    | _ => (0, false) := rfl
  rcases num_end (Lib.parseIntB 64 s.data.toList) with ⟨v, hp⟩ | hp | hp
  · rw [hp] at hi
    simp only [] at hi
    have hr := parse_range s v hp
    rw [hi]
    split
    · exact hr
    · decide
  · rw [hp] at hi
    rw [hi]
    exact ⟨(by decide : (-9223372036854775808 : Int) ≤ 0), (by decide : (0 : Int) ≤ 9223372036854775807)⟩
  · rw [hp] at hi
    rw [hi]
    exact ⟨(by decide : (-9223372036854775808 : Int) ≤ 0), (by decide : (0 : Int) ≤ 9223372036854775807)⟩
def msK (k : Int) : Ms := ⟨k, ⟨#[]⟩, sn0, 0, 0⟩
theorem sizeK (k : Int) : (Tryd.prog.info? 31).map (·.size) = some (msL (msK k) (.slice none 0 0) (.slice none 0 0) (.slice none 0 0)).toArray.size := by
  rw [List.size_toArray, msL_len (by show sn0.sum.length = 32; decide)]; kernel_rfl
theorem snL_one (s : Sn) {v0 v1 v2 : Value} (h0 : v0.oneCell' = true) (h1 : v1.oneCell' = true) (h2 : v2.oneCell' = true) : ∀ v ∈ snL s v0 v1 v2, v.oneCell' = true := by
  intro v hv
  simp only [snL, List.mem_append, List.mem_cons, List.not_mem_nil, or_false] at hv
  rcases hv with (rfl | rfl | rfl | rfl | rfl | rfl | rfl | rfl | rfl) | h
  all_goals first | rfl | assumption | exact byteCells_one _ _ h
theorem msL_one (m : Ms) {v0 v1 v2 : Value} (h0 : v0.oneCell' = true) (h1 : v1.oneCell' = true) (h2 : v2.oneCell' = true) : (msL m v0 v1 v2).toArray.all (·.oneCell') = true := by
  refine all_oneCell_toArray fun v hv => ?_
  simp only [msL, List.mem_append, List.mem_cons, List.not_mem_nil, or_false] at hv
  rcases hv with (rfl | rfl) | h | (rfl | rfl)
  · rfl
  · rfl
  · exact snL_one m.snap h0 h1 h2 _ h
  · rfl
  · rfl
theorem oneK (k : Int) : (msL (msK k) (.slice none 0 0) (.slice none 0 0) (.slice none 0 0)).toArray.all (·.oneCell') = true := msL_one _ rfl rfl rfl
theorem put_list {w : World} {b t : Nat} {L : List Value} (h : Row w b t L.toArray) (i : Nat) (v : Value) (L' : List Value) (e : L.set i v = L') : Row (w.setCell ⟨b, i, none⟩ v) b t L'.toArray := by
  subst e
  have := h.put i v
  rw [List.setIfInBounds_toArray] at this
  exact this
/-- A list of texts that lies in no block below b. -/
def From (b : Nat) (v : Value) : Prop := ∀ a n c, v = .slice (some a) n c → 0 < n → b ≤ a.block
theorem from_nil (b : Nat) : From b (.slice none 0 0) := fun _ _ _ e => by cases e
theorem TextsAt.one {w : World} {v : Value} {l : List ByteArray} (h : TextsAt w v l) : v.oneCell' = true := by
  obtain ⟨A, c, rfl, _⟩ := h
  rfl
theorem TextsAt.row {w : World} {v : Value} {l : List ByteArray} (h : TextsAt w v l) {b b' : Nat} (hf : From b v) (hb : b' < b) (X : Array Value) : TextsAt (w.setRow b' X) v l := by
  obtain ⟨A, c, rfl, h2, h3, h4⟩ := h
  refine ⟨A, c, rfl, h2, Kd.C_keep (g := b') ⟨#[]⟩ h3 ⟨by rw [setRow_size]; exact Nat.le_refl _, fun i _ hi _ => setRow_other w b' i X hi⟩ (fun ad e hn => ?_), h4⟩
  subst e
  have := hf ad _ _ rfl hn
  omega
theorem MsOk.row {w : World} {m : Ms} {v0 v1 v2 : Value} (h : MsOk w m v0 v1 v2) {b b' : Nat} (h0 : From b v0) (h1 : From b v1) (h2 : From b v2) (hb : b' < b) (X : Array Value) : MsOk (w.setRow b' X) m v0 v1 v2 :=
  ⟨⟨h.snap.h0.row h0 hb X, h.snap.h1.row h1 hb X, h.snap.h2.row h2 hb X, h.snap.hs, h.snap.hm, h.snap.hn, h.snap.hat, h.snap.hc, h.snap.hp, h.snap.hb⟩, h.hk, h.hd, h.hn, h.hw⟩
theorem nil_ok (w : World) (k : Int) (d : ByteArray) (n y : Int) (hk : -9223372036854775808 ≤ k ∧ k ≤ 9223372036854775807) (hd : d.size ≤ 140737488351232) (hn : -9223372036854775808 ≤ n ∧ n ≤ 9223372036854775807) (hy : -9223372036854775808 ≤ y ∧ y ≤ 9223372036854775807) :
    MsOk w ⟨k, d, sn0, n, y⟩ (.slice none 0 0) (.slice none 0 0) (.slice none 0 0) := ⟨(ms0_ok w).snap, hk, hd, hn, hy⟩
theorem ms_setData (k : Int) (d : ByteArray) (v0 v1 v2 : Value) : (msL (msK k) v0 v1 v2).set 1 (.string d) = msL ⟨k, d, sn0, 0, 0⟩ v0 v1 v2 := rfl
theorem ms_setN (k n : Int) (v0 v1 v2 : Value) : (msL (msK k) v0 v1 v2).set 43 (.int .i64 n) = msL ⟨k, ⟨#[]⟩, sn0, n, 0⟩ v0 v1 v2 := rfl
theorem ms_setWhy (k n : Int) (v0 v1 v2 : Value) : (msL (msK k) v0 v1 v2).set 44 (.int .i64 n) = msL ⟨k, ⟨#[]⟩, sn0, 0, n⟩ v0 v1 v2 := rfl
theorem ms_setSnap (k : Int) (S : Sn) (hS : S.sum.length = 32) (v0 v1 v2 u0 u1 u2 : Value) : (msL (msK k) v0 v1 v2).take 2 ++ snL S u0 u1 u2 ++ (msL (msK k) v0 v1 v2).drop (2 + (snL S u0 u1 u2).length) = msL ⟨k, ⟨#[]⟩, S, 0, 0⟩ u0 u1 u2 := by
  rw [snL_len hS]
  have e : (msL (msK k) v0 v1 v2).drop 43 = [.int .i64 0, .int .i64 0] := rfl
  rw [e]
  have e2 : (msL (msK k) v0 v1 v2).take 2 = [.int .i64 k, .string ⟨#[]⟩] := rfl
  rw [e2, List.append_assoc]
  rfl
theorem texts_two (s a d : ByteArray) (hs : s.size ≤ 1000000000) (hr : ofRow s = ([a, d], 0)) (w : World) : Calls Tryd.prog 29 #[.string s] w fun e w' => (∃ g c, e = .returned (.tuple #[.slice (some ⟨g, 0, none⟩) 2 c, .int .i64 0]) ∧ 2 ≤ c ∧ w'.cell? ⟨g, 0, none⟩ = some (.string a) ∧ w'.cell? ⟨g, 1, none⟩ = some (.string d)) ∧ Below w.heap.size w w' := by
  have hf := texts_f s hs
  rw [hr] at hf
  refine (PGet.num_Texts.calls _ s _ _ w hf).mono ?_
  rintro e w' ⟨v, rfl, hR, hb⟩
  obtain ⟨g, c, rfl, _, _⟩ := Kd.R_form hR (by simp)
  obtain ⟨-, hc, hC⟩ := Kd.R_reads' hR
  obtain ⟨ad, e0, hx0⟩ := Kd.at_string hC 0 (by omega) (by simp)
  cases e0
  obtain ⟨ad', e1, hx1⟩ := Kd.at_string hC 1 (by omega) (by simp)
  cases e1
  exact ⟨⟨g, c, rfl, hc, hx0, hx1⟩, hb⟩
set_option maxHeartbeats 8000000 in
set_option maxRecDepth 100000 in
theorem get_any (s a d : ByteArray) (hs : s.size ≤ 1000000000) (hr : ofRow s = ([a, d], 0)) (ha : a.size ≤ 1000000000) (hd : d.size ≤ 1000000000) (S : Sn) (eo : Int) (w : World) (hl : LaidE w)
    (hof : (int a).1 = 3 → ∀ w, LaidE w → Calls Tryd.prog 31 #[.string d] w fun e w' => (∃ u0 u1 u2, e = .returned (.tuple #[.agg (snL S u0 u1 u2).toArray, .int .i64 eo]) ∧ SnOk w' S u0 u1 u2 ∧ From w.heap.size u0 ∧ From w.heap.size u1 ∧ From w.heap.size u2) ∧ Below w.heap.size w w')
    (M R : Ms) (er : Int) (hM : M = getM (int a).1 d S (int d).1) (hR : if ((int a).1 = 3 → eo = 0) ∧ checkMs M = 0 ∧ putMs M = s then R = M ∧ er = 0 else R = ms0 ∧ er = 3) :
    Calls Tryd.prog 15 #[.string s] w fun e w' => (∃ u0 u1 u2, e = .returned (.tuple #[.agg (msL R u0 u1 u2).toArray, .int .i64 er]) ∧ MsOk w' R u0 u1 u2) ∧ Below w.heap.size w w' := by
  have HT := Sec.mk (fun w => texts_two s a d hs hr w)
  have HI1 := Sec.mk (fun w h => int_any a (by omega) w h)
  have HI2 := Sec.mk (fun w h => int_any d (by omega) w h)
  have hkr := int_range a
  have hnr := int_range d
  have hM2 := Row.new w (msL ms0 (.slice none 0 0) (.slice none 0 0) (.slice none 0 0)).toArray 31
  have hb0 := (Below.refl w.heap.size w).alloc (Nat.le_refl _) (.cells (msL ms0 (.slice none 0 0) (.slice none 0 0) (.slice none 0 0)).toArray 31)
  have HMR := Sec.mk (And.intro hM hR)
  have HOF := Sec.mk hof
  clear hM hR hof
  generalize int a = ia at *
  generalize int d = id at *
  obtain ⟨k, o1⟩ := ia
  obtain ⟨n, o2⟩ := id
  simp only [] at HI1 HI2 HMR HOF hkr hnr
  go_enter Tryd.func15, Tryd.ntmps15
  go_upto_region 1 with (fail)
  refine wp_abs (fun W HW => ?_)
  replace hM2 : Row W w.heap.size 31 (msL ms0 (.slice none 0 0) (.slice none 0 0) (.slice none 0 0)).toArray := by rw [HW.out]; exact hM2
  replace hb0 : Below w.heap.size w W := by rw [HW.out]; exact hb0
  clear HW
  go_wp2_with fail
  refine (HT.out W).mono ?_
  rintro e w1 ⟨⟨g, c, rfl, hc, hy0, hy1⟩, hb1⟩
  have hM21 := hM2.below hb1 hM2.lt
  replace hb1 := hb0.trans (hb1.mono hb0.size)
  clear hM2 hb0 HT
  have hn : ((2 : Int) != 2) = false := by decide
  have hlE := hl.below hb1
  go_wp2_with fail
  refine (HI1.out _ hlE).mono ?_
  rintro e w2 ⟨rfl, hb2⟩
  have hM22 := hM21.below hb2 hM21.lt
  have hz1 : w2.cell? ⟨g, 1, none⟩ = some (.string d) := (hb2.cell (cell_lt hy1)).trans hy1
  replace hb2 := hb1.trans (hb2.mono hb1.size)
  clear hM21 hy0 hy1 hb1 hlE HI1
  have hlE := hl.below hb2
  go_wp2_with fail
  refine (HI2.out _ hlE).mono ?_
  rintro e w3 ⟨rfl, hb3⟩
  have hM23 := hM22.below hb3 hM22.lt
  have hu1 : w3.cell? ⟨g, 1, none⟩ = some (.string d) := (hb3.cell (cell_lt hz1)).trans hz1
  replace hb3 := hb2.trans (hb3.mono hb2.size)
  clear hM22 hz1 hb2 hlE HI2
  have hx10 := (Row.new w3 (msL ms0 (.slice none 0 0) (.slice none 0 0) (.slice none 0 0)).toArray 31).row (C := (msL (msK k) (.slice none 0 0) (.slice none 0 0) (.slice none 0 0)).toArray)
  have hM24 := (hM23.alloc (.cells (msL ms0 (.slice none 0 0) (.slice none 0 0) (.slice none 0 0)).toArray 31)).rowOther (Nat.ne_of_lt hM23.lt) (msL (msK k) (.slice none 0 0) (.slice none 0 0) (.slice none 0 0)).toArray
  have hu4 : ((w3.alloc (.cells (msL ms0 (.slice none 0 0) (.slice none 0 0) (.slice none 0 0)).toArray 31)).setRow w3.heap.size (msL (msK k) (.slice none 0 0) (.slice none 0 0) (.slice none 0 0)).toArray).cell? ⟨g, 1, none⟩ = some (.string d) := by
    have hb : Below w3.heap.size w3 ((w3.alloc (.cells (msL ms0 (.slice none 0 0) (.slice none 0 0) (.slice none 0 0)).toArray 31)).setRow w3.heap.size (msL (msK k) (.slice none 0 0) (.slice none 0 0) (.slice none 0 0)).toArray) := below_row ((Below.refl w3.heap.size w3).alloc (Nat.le_refl _) _) (Nat.le_refl _) _
    exact (hb.cell (cell_lt hu1)).trans hu1
  have hb4 := below_row (hb3.alloc hb3.size (.cells (msL ms0 (.slice none 0 0) (.slice none 0 0) (.slice none 0 0)).toArray 31)) hb3.size (msL (msK k) (.slice none 0 0) (.slice none 0 0) (.slice none 0 0)).toArray
  have hlt4 := hM23.lt
  clear hM23 hu1 hb3
  go_upto_block 0 with (refine wpList_store_row rfl 31 (.tmp 10) (.tmp 41) rfl w3.heap.size (msL (msK k) (.slice none 0 0) (.slice none 0 0) (.slice none 0 0)).toArray rfl rfl 31 _ (Row.new w3 (msL ms0 (.slice none 0 0) (.slice none 0 0) (.slice none 0 0)).toArray 31) (sizeK k) rfl (oneK k) ?_)
  refine wp_abs (fun W4 HW => ?_)
  replace hx10 : Row W4 w3.heap.size 31 (msL (msK k) (.slice none 0 0) (.slice none 0 0) (.slice none 0 0)).toArray := by rw [HW.out]; exact hx10
  replace hM24 : Row W4 w.heap.size 31 (msL ms0 (.slice none 0 0) (.slice none 0 0) (.slice none 0 0)).toArray := by rw [HW.out]; exact hM24
  replace hu4 : W4.cell? ⟨g, 1, none⟩ = some (.string d) := by rw [HW.out]; exact hu4
  replace hb4 : Below w.heap.size w W4 := by rw [HW.out]; exact hb4
  clear HW
  generalize w3.heap.size = B at *
  clear hn
  have HL := Sec.mk hl
  have hBW : B < W4.heap.size := hx10.lt
  have HK := Sec.mk hkr
  have HN := Sec.mk hnr
  clear hl hkr hnr hs hr
  go_cut [5] (fun v5 wc => (∃ f, v5 = .int .i64 f ∧ Sec (f = 0 ↔ (k = 3 → eo = 0))) ∧ (∃ u0 u1 u2, Row wc B 31 (msL M u0 u1 u2).toArray ∧ MsOk wc M u0 u1 u2 ∧ From B u0 ∧ From B u1 ∧ From B u2) ∧ Row wc w.heap.size 31 (msL ms0 (.slice none 0 0) (.slice none 0 0) (.slice none 0 0)).toArray ∧ Below w.heap.size w wc)
  case first =>
    have c1 : W4.cell? ⟨B, 1, none⟩ = some (.string ⟨#[]⟩) := hx10.at_ 1
    have c43 : W4.cell? ⟨B, 43, none⟩ = some (.int .i64 0) := hx10.at_ 43
    have c44 : W4.cell? ⟨B, 44, none⟩ = some (.int .i64 0) := hx10.at_ 44
    have z1 : W4.frozen? ⟨B, 1, none⟩ = false := hx10.free 1
    have z43 : W4.frozen? ⟨B, 43, none⟩ = false := hx10.free 43
    have z44 : W4.frozen? ⟨B, 44, none⟩ = false := hx10.free 44
    by_cases e1 : k = 1
    · subst e1
      have eM : M = ⟨1, d, sn0, 0, 0⟩ := HMR.out.1
      go_wp2_with fail
      go_meet
      refine ⟨⟨0, rfl, ⟨by simp⟩⟩, ⟨_, _, _, by rw [eM]; exact put_list hx10 1 _ _ (ms_setData _ _ _ _ _), by rw [eM]; exact nil_ok _ 1 d 0 0 (by decide) (by omega) (by decide) (by decide), from_nil _, from_nil _, from_nil _⟩, hM24.aside (by show w.heap.size ≠ B; omega) _, hb4.setCell (p := ⟨B, 1, none⟩) (by show w.heap.size ≤ B; omega) _⟩
    by_cases e2 : k = 2
    · subst e2
      have eM : M = ⟨2, d, sn0, 0, 0⟩ := HMR.out.1
      go_wp2_with fail
      go_meet
      refine ⟨⟨0, rfl, ⟨by simp⟩⟩, ⟨_, _, _, by rw [eM]; exact put_list hx10 1 _ _ (ms_setData _ _ _ _ _), by rw [eM]; exact nil_ok _ 2 d 0 0 (by decide) (by omega) (by decide) (by decide), from_nil _, from_nil _, from_nil _⟩, hM24.aside (by show w.heap.size ≠ B; omega) _, hb4.setCell (p := ⟨B, 1, none⟩) (by show w.heap.size ≤ B; omega) _⟩
    by_cases e3 : k = 3
    · subst e3
      have eM : M = ⟨3, ⟨#[]⟩, S, 0, 0⟩ := HMR.out.1
      go_wp2_with fail
      refine (HOF.out trivial W4 (HL.out.below hb4)).mono ?_
      rintro e w5 ⟨⟨u0, u1, u2, rfl, hS, f0, f1, f2⟩, hb5⟩
      have hx105 := hx10.below hb5 hx10.lt
      have hM25 := hM24.below hb5 hM24.lt
      replace hb5 := hb4.trans (hb5.mono hb4.size)
      have hSs := hS.hs
      have hSn := snL_one S hS.h0.one hS.h1.one hS.h2.one
      have hSl : (snL S u0 u1 u2).length = 41 := snL_len hSs
      have hrow := hx105.row (C := (msL ⟨3, ⟨#[]⟩, S, 0, 0⟩ u0 u1 u2).toArray)
      have hS2 : MsOk (w5.setRow B (msL ⟨3, ⟨#[]⟩, S, 0, 0⟩ u0 u1 u2).toArray) M u0 u1 u2 := by
        rw [eM]
        exact MsOk.row ⟨hS, (by decide : (-9223372036854775808 : Int) ≤ 3 ∧ (3 : Int) ≤ 9223372036854775807), (by decide : (⟨#[]⟩ : ByteArray).size ≤ 140737488351232), (by decide : (-9223372036854775808 : Int) ≤ 0 ∧ (0 : Int) ≤ 9223372036854775807), (by decide : (-9223372036854775808 : Int) ≤ 0 ∧ (0 : Int) ≤ 9223372036854775807)⟩ f0 f1 f2 hBW _
      have hM26 := hM25.rowOther (b' := B) (by omega) (msL ⟨3, ⟨#[]⟩, S, 0, 0⟩ u0 u1 u2).toArray
      have hb6 := below_row hb5 (b := B) (by omega) (msL ⟨3, ⟨#[]⟩, S, 0, 0⟩ u0 u1 u2).toArray
      have hi28 : (Tryd.prog.info? 28).map (·.size) = some (snL S u0 u1 u2).length := by rw [hSl]; kernel_rfl
      have hms := ms_setSnap 3 S hSs (.slice none 0 0) (.slice none 0 0) (.slice none 0 0) u0 u1 u2
      have hle : 2 + (snL S u0 u1 u2).length ≤ (msL (msK 3) (.slice none 0 0) (.slice none 0 0) (.slice none 0 0)).length := by rw [hSl, msL_len (by show sn0.sum.length = 32; decide)]; decide
      have HS := Sec.mk hS2
      clear hS2 hS hSl hM24 hx10 hb4
      go_wp2_with (refine wpList_store_part rfl 28 (.tmp 59) (.tmp 57) rfl B 2 (snL S u0 u1 u2) rfl rfl 31 (msL (msK 3) (.slice none 0 0) (.slice none 0 0) (.slice none 0 0)) hx105 hi28 hle hSn ?_; rw [hms])
      go_meet
      refine ⟨⟨eo, rfl, ⟨by simp⟩⟩, ⟨u0, u1, u2, by rw [eM]; exact hrow, HS.out, fun a n c e hn => ?_, fun a n c e hn => ?_, fun a n c e hn => ?_⟩, hM26, hb6⟩
      · have := f0 a n c e hn; omega
      · have := f1 a n c e hn; omega
      · have := f2 a n c e hn; omega
    by_cases e4 : k = 4
    · subst e4
      have eM : M = ⟨4, ⟨#[]⟩, sn0, n, 0⟩ := HMR.out.1
      go_wp2_with fail
      go_meet
      refine ⟨⟨0, rfl, ⟨by simp⟩⟩, ⟨_, _, _, by rw [eM]; exact put_list hx10 43 _ _ (ms_setN _ _ _ _ _), by rw [eM]; exact nil_ok _ 4 ⟨#[]⟩ n 0 (by decide) (by decide) HN.out (by decide), from_nil _, from_nil _, from_nil _⟩, hM24.aside (by show w.heap.size ≠ B; omega) _, hb4.setCell (p := ⟨B, 43, none⟩) (by show w.heap.size ≤ B; omega) _⟩
    by_cases e5 : k = 5
    · subst e5
      have eM : M = ⟨5, ⟨#[]⟩, sn0, 0, n⟩ := HMR.out.1
      go_wp2_with fail
      go_meet
      refine ⟨⟨0, rfl, ⟨by simp⟩⟩, ⟨_, _, _, by rw [eM]; exact put_list hx10 44 _ _ (ms_setWhy _ _ _ _ _), by rw [eM]; exact nil_ok _ 5 ⟨#[]⟩ 0 n (by decide) (by decide) (by decide) HN.out, from_nil _, from_nil _, from_nil _⟩, hM24.aside (by show w.heap.size ≠ B; omega) _, hb4.setCell (p := ⟨B, 44, none⟩) (by show w.heap.size ≤ B; omega) _⟩
    · have eM : M = msK k := by rw [HMR.out.1]; unfold getM; rw [if_neg e3, if_neg (by omega), if_neg e4, if_neg e5]; rfl
      have b1 : (k == 1) = false := beq_eq_false_iff_ne.2 e1
      have b2 : (k == 2) = false := beq_eq_false_iff_ne.2 e2
      have b3 : (k == 3) = false := beq_eq_false_iff_ne.2 e3
      have b4 : (k == 4) = false := beq_eq_false_iff_ne.2 e4
      have b5 : (k == 5) = false := beq_eq_false_iff_ne.2 e5
      have E3 := Sec.mk e3
      clear e1 e2 e3 e4 e5
      go_wp2_with fail
      go_meet
      refine ⟨⟨0, rfl, ⟨by simp; intro h; exact absurd h E3.out⟩⟩, ⟨_, _, _, by rw [eM]; exact hx10, by rw [eM]; exact nil_ok _ k ⟨#[]⟩ 0 0 HK.out (by decide) (by decide) (by decide), from_nil _, from_nil _, from_nil _⟩, hM24, hb4⟩
  case rest =>
    obtain ⟨⟨f, rfl, HF⟩, ⟨u0, u1, u2, hrow, hok, f0, f1, f2⟩, hM2, hb⟩ := hcut
    have hsM := hok.snap.hs
    have hx := ms_whole hrow hsM
    clear hM24 hu4 hb4 hx10
    go_wp2_with (refine wpList_load_list rfl 31 (.tmp 10) rfl B 0 rfl _ hx ?_)
    refine (put_any M u0 u1 u2 _ hok (HL.out.below hb).toLaid).mono ?_
    rintro e w6 ⟨rfl, hb6⟩
    have hrow6 := hrow.below hb6 hrow.lt
    have hM6 := hM2.below hb6 hM2.lt
    have hok6 := hok.below hb6
    replace hb6 := hb.trans (hb6.mono hb.size)
    have hx6 := ms_whole hrow6 hsM
    clear hx hrow hM2 hok hb
    by_cases hgood : ((k = 3 → eo = 0) ∧ checkMs M = 0 ∧ putMs M = s)
    · have hR := HMR.out.2
      rw [if_pos hgood] at hR
      have HR := Sec.mk hR
      obtain ⟨g1, g2, g3⟩ := hgood
      obtain rfl : f = 0 := HF.out.2 g1
      rw [g2, g3]
      have hss : (s.toList != s.toList) = false := bne_self_eq_false _
      have hok7 := Sec.mk (hok6.row f0 f1 f2 hlt4 (msL M u0 u1 u2).toArray)
      have sizeM : (Tryd.prog.info? 31).map (·.size) = some (msL M u0 u1 u2).toArray.size := by
        rw [List.size_toArray, msL_len hsM]; kernel_rfl
      have holdM : (msL ms0 (.slice none 0 0) (.slice none 0 0) (.slice none 0 0)).toArray.size = (msL M u0 u1 u2).toArray.size := by
        rw [List.size_toArray, List.size_toArray, msL_len hsM, msL_len (by decide)]
      have oneM := msL_one M hok6.snap.h0.one hok6.snap.h1.one hok6.snap.h2.one
      have hrow7 := hM6.row (C := (msL M u0 u1 u2).toArray)
      clear g1 g2 g3 hR hok6
      go_wp2_with (first
        | refine wpList_load_list rfl 31 (.tmp 10) rfl B 0 rfl _ hx6 ?_
        | refine wpList_store_row rfl 31 (.tmp 2) (.tmp 85) rfl w.heap.size (msL M u0 u1 u2).toArray rfl rfl 31 _ hM6 sizeM holdM oneM ?_)
      exact get_ret hrow7 hsM 0 _ rfl rfl rfl _ ⟨⟨u0, u1, u2, by rw [HR.out.1, HR.out.2], by rw [HR.out.1]; exact hok7.out⟩, below_row hb6 (Nat.le_refl _) _⟩
    · have hR := HMR.out.2
      rw [if_neg hgood] at hR
      have HR := Sec.mk hR
      have HG := Sec.mk (fun (h0 : f = 0) (h1 : checkMs M = 0) (h2 : putMs M = s) => hgood ⟨HF.out.1 h0, h1, h2⟩)
      clear hR hgood HF hok6 hx6
      generalize checkMs M = z at *
      generalize putMs M = pm at *
      by_cases f0 : f = 0
      · subst f0
        by_cases z0 : z = 0
        · subst z0
          have hne : (pm.toList == s.toList) = false := by
            rw [beq_eq_false_iff_ne]
            intro h
            exact HG.out rfl rfl ((toList_inj _ _).1 h)
          go_wp2_with (refine wpList_store_row rfl 31 (.tmp 2) (.tmp 84) rfl w.heap.size (msL ms0 (.slice none 0 0) (.slice none 0 0) (.slice none 0 0)).toArray rfl rfl 31 _ hM6 size0 rfl one0 ?_)
          exact get_ret hM6.row (by decide) 3 _ rfl rfl rfl _ ⟨⟨_, _, _, by rw [HR.out.1, HR.out.2], by rw [HR.out.1]; exact ms0_ok _⟩, below_row hb6 (Nat.le_refl _) _⟩
        · have hz : (z != 0) = true := bne_iff_ne.2 z0
          clear HG z0
          go_wp2_with (refine wpList_store_row rfl 31 (.tmp 2) (.tmp 84) rfl w.heap.size (msL ms0 (.slice none 0 0) (.slice none 0 0) (.slice none 0 0)).toArray rfl rfl 31 _ hM6 size0 rfl one0 ?_)
          exact get_ret hM6.row (by decide) 3 _ rfl rfl rfl _ ⟨⟨_, _, _, by rw [HR.out.1, HR.out.2], by rw [HR.out.1]; exact ms0_ok _⟩, below_row hb6 (Nat.le_refl _) _⟩
      · have hz : (f != 0) = true := bne_iff_ne.2 f0
        clear HG f0
        go_wp2_with (refine wpList_store_row rfl 31 (.tmp 2) (.tmp 84) rfl w.heap.size (msL ms0 (.slice none 0 0) (.slice none 0 0) (.slice none 0 0)).toArray rfl rfl 31 _ hM6 size0 rfl one0 ?_)
        exact get_ret hM6.row (by decide) 3 _ rfl rfl rfl _ ⟨⟨_, _, _, by rw [HR.out.1, HR.out.2], by rw [HR.out.1]; exact ms0_ok _⟩, below_row hb6 (Nat.le_refl _) _⟩
end Go.Proofs.YtokcmaehojljdaaDoor
