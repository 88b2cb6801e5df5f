/- One text of several: Chunks; PGetG; GetNum; Cuts0; WPut; Awake; Get0; Same; PureApart; Get1; Of0. -/
import Derived.Test.YtokcmaehojljdaaDoorMP2
import Derived.Test.YtokcmaehojljdaaDoorMP4
import Derived.Lib.BufferWrite
import Derived.Test.YtokcmaehojljdaaDoorMP3
import Derived.Laws.BitsAllLaws
import Derived.Laws.CopyRow
import Derived.Lib.ConvBytes

/- manifest.chunks: the names of digests, one behind the other: its walk. -/
namespace Go.Proofs.YtokcmaehojljdaaDoor
open Go.RowKit Go.Proofs.YtokcmaehojljdaaDoorW.PrintWords Go.Proofs.YtokcmaehojljdaaDoorW.PrintLast Go.Proofs.YtokcmaehojljdaaDoorW.PrintMore

/-- Pieces of 32 bytes. -/
def pcs : Nat → List UInt8 → List (List UInt8)
  | 0, _ => []
  | n + 1, L => L.take 32 :: pcs n (L.drop 32)
def namesOf (s : ByteArray) : List ByteArray := if s.size % 32 = 0 then (pcs (s.size / 32) s.data.toList).map hexS else []
def chOk (s : ByteArray) : Bool := decide (s.size % 32 = 0)
theorem pcs_len : ∀ n L, (pcs n L).length = n
  | 0, _ => rfl
  | n + 1, L => by rw [pcs, List.length_cons, pcs_len]
theorem pcs_at : ∀ (n : Nat) (L : List UInt8) (i : Nat), i < n → (pcs n L)[i]? = some ((L.drop (32 * i)).take 32)
  | 0, _, _, h => absurd h (Nat.not_lt_zero _)
  | n + 1, L, 0, _ => by rw [pcs, List.getElem?_cons_zero, Nat.mul_zero, List.drop_zero]
  | n + 1, L, i + 1, h => by
    rw [pcs, List.getElem?_cons_succ, pcs_at n (L.drop 32) i (by omega), List.drop_drop]
    congr 3
    omega
theorem run_copy_long {P : Program} (w : World) (dT sT ty elem : TypeId) (g dLen dCap : Nat) (s : ByteArray) (cur : Array Value) (t : TypeId)
    (hu : P.underlying dT = some (.slice elem)) (hs : (P.info? elem).map (·.size) = some 1) (hg : w.heap[g]? = some (.cells cur t (0, 0))) (hle : dLen ≤ s.size) (hfit : cur.size = dLen) :
    (Builtin.copy_ #[dT, sT] ty #[.slice (some ⟨g, 0, none⟩) dLen dCap, .string s]).run P w = .ok (goInt dLen) (w.setRow g (Lib.byteCells (s.data.toList.take dLen)).toArray) := by
  have hlen : (Lib.byteCells (s.data.toList.take dLen)).length = dLen := by rw [Lib.byteCells_length, List.length_take]; simp; omega
  have hst := run_storeCells_at P g 0 t (Lib.byteCells (s.data.toList.take dLen)) 0 cur w hg (by rw [hlen]; omega) (Lib.byteCells_one _)
  have hmin : Nat.min s.size dLen = dLen := Nat.min_eq_right hle
  have htk : List.take dLen (List.map (fun b : UInt8 => Value.int IntKind.u8 (b.toNat : Int)) s.data.toList) = Lib.byteCells (s.data.toList.take dLen) := by
    unfold Lib.byteCells
    rw [List.map_take]
  rw [hlen] at hst
  have hend : cur.toList.drop (0 + 0 + dLen) = [] := List.drop_eq_nil_of_le (by rw [Array.length_toList]; omega)
  rw [hend] at hst
  simp only [Nat.add_zero, List.take_zero, List.nil_append, List.append_nil] at hst
  cases hq : P.info? elem with
  | none => simp [hq] at hs
  | some i =>
    simp [Builtin.copy_, run_underlying hu, Builtin.lenOf, Builtin.firstCells, sizeOf, typeInfo, hq, hmin]
    rw [htk, hst]
    simp [Result.andThen]
theorem bstr_drop (M : List UInt8) : (bstr M).extract 32 (bstr M).size = bstr (M.drop 32) := by
  refine (byteArray_eq _ _ ?_).trans rfl
  rw [extract_list, bstr_size]
  exact List.take_of_length_le (by rw [List.length_drop]; exact Nat.le_refl _)
theorem bstr_list (M : List UInt8) : (bstr M).data.toList = M := rfl
set_option maxHeartbeats 4000000 in
set_option maxRecDepth 100000 in
theorem chunks_any (s : ByteArray) (hsz : s.size ≤ 1000000000) (w : World) : Calls Tryd.prog 57 #[.string s] w fun e w' => (∃ v, e = .returned (.tuple #[v, .bool (chOk s)]) ∧ Kd.R Kd.string 9 w' w.heap.size (fun _ => True) v (namesOf s)) ∧ Below w.heap.size w w' := by
  have hR := Row.new w (Lib.byteCells (List.replicate 32 0)).toArray 26
  have hb0 := (Below.refl w.heap.size w).alloc (Nat.le_refl _) (.cells (Lib.byteCells (List.replicate 32 0)).toArray 26)
  go_enter Tryd.func57, Tryd.ntmps57
  go_upto_region 2 with (fail)
  refine wp_abs (fun W HW => ?_)
  replace hR : Row W w.heap.size 26 (Lib.byteCells (List.replicate 32 0)).toArray := by rw [HW.out]; exact hR
  replace hb0 : Below w.heap.size w W := by rw [HW.out]; exact hb0
  clear HW
  obtain ⟨r, hr, hrr⟩ : ∃ r : Nat, Int.tmod (s.size : Int) 32 = (r : Int) ∧ r = s.size % 32 := ⟨s.size % 32, by rw [Int.tmod_eq_emod_of_nonneg (by omega)]; rfl, rfl⟩
  by_cases h0 : r = 0
  · subst h0
    have hk : chOk s = true := decide_eq_true hrr.symm
    have hno : namesOf s = (pcs (s.size / 32) s.data.toList).map hexS := by unfold namesOf; rw [if_pos hrr.symm]
    have HNO := Sec.mk hno
    have HOK := Sec.mk hk
    obtain ⟨n, hn⟩ : ∃ n, n = s.size / 32 := ⟨_, rfl⟩
    rw [← hn] at HNO
    have hL : s.data.toList.length = 32 * n := by
      have : s.data.toList.length = s.size := by simp
      omega
    clear hno hk hn hrr
    go_upto_region 4 with (fail)
    clear hr
    have hsL : s = bstr s.data.toList := byteArray_eq s _ rfl
    generalize s.data.toList = L at *
    subst hsL
    have hn1 : n ≤ 1000000000 := by rw [bstr_size] at hsz; omega
    go_wp2_with fail
    go_loopw [0, 5] (fun v0 v5 wr => ∃ (i : Nat) (X : List UInt8), i ≤ n ∧ X.length = 32 ∧ v0 = .string (bstr (L.drop (32 * i))) ∧ Kd.R Kd.string 9 wr w.heap.size (fun k => k ≠ w.heap.size) v5 (((pcs n L).take i).map hexS) ∧ Row wr w.heap.size 26 (Lib.byteCells X).toArray ∧ Below w.heap.size w wr) (fun v0 _ _ => match v0 with | .string s => s.size | _ => 0)
    case atStart => exact ⟨0, List.replicate 32 0, by omega, by simp, by rw [Nat.mul_zero, List.drop_zero], Kd.R_nil _ _ _ _ _, hR, hb0⟩
    case round =>
      clear hR hb0
      obtain ⟨i, X, hi, hX, rfl, hO, hR, hb⟩ := hrel
      by_cases hlt : i < n
      · have hdl : (L.drop (32 * i)).length = 32 * n - 32 * i := by rw [List.length_drop, hL]
        have hne : ((bstr (L.drop (32 * i))).toList == ([] : List UInt8)) = false := by
          rw [beq_eq_false_iff_ne, ByteArray.toList_eq, bstr_list]
          intro e
          have := congrArg List.length e
          rw [hdl, List.length_nil] at this
          omega
        have hpi := pcs_at n L i hlt
        have hdr := bstr_drop (L.drop (32 * i))
        rw [List.drop_drop, show 32 * i + 32 = 32 * (i + 1) by omega] at hdr
        have hms : (bstr (L.drop (32 * i))).size = 32 * n - 32 * i := by rw [bstr_size, hdl]
        have hms2 : (bstr (L.drop (32 * (i + 1)))).size = 32 * n - 32 * (i + 1) := by rw [bstr_size, List.length_drop, hL]
        have hcp := fun ty => run_copy_long (P := Tryd.prog) wr 42 9 ty 5 w.heap.size 32 32 (bstr (L.drop (32 * i))) _ 26 Tryd.underlying42 (by kernel_rfl) hR (by omega) (by rw [List.size_toArray, Lib.byteCells_length, hX])
        rw [bstr_list] at hcp
        have hR2 := hR.row (C := (Lib.byteCells ((L.drop (32 * i)).take 32)).toArray)
        have hb2 := below_row hb (Nat.le_refl _) (Lib.byteCells ((L.drop (32 * i)).take 32)).toArray
        have hO2 : Kd.R Kd.string 9 (wr.setRow w.heap.size (Lib.byteCells ((L.drop (32 * i)).take 32)).toArray) w.heap.size (fun k => k ≠ w.heap.size) u5 (((pcs n L).take i).map hexS) :=
          Kd.R_keep hO (g := w.heap.size) ⟨by rw [setRow_size]; exact Nat.le_refl _, fun k _ hk _ => setRow_other wr w.heap.size k _ hk⟩ (fun k hk => hk)
        have hY : ((L.drop (32 * i)).take 32).length = 32 := by rw [List.length_take, hdl]; omega
        have hnx : ((pcs n L).take (i + 1)).map hexS = ((pcs n L).take i).map hexS ++ [hexS ((L.drop (32 * i)).take 32)] := by
          rw [List.take_add_one, hpi, List.map_append]; rfl
        have hll : (((pcs n L).take i).map hexS).length ≤ 1000000000 := by rw [List.length_map, List.length_take, pcs_len]; omega
        have HNX := Sec.mk hnx
        have HDR := Sec.mk hdr
        clear hnx hpi hR hO hb hdr hX
        obtain ⟨Y, hYY⟩ : ∃ Y, Y = (L.drop (32 * i)).take 32 := ⟨_, rfl⟩
        rw [← hYY] at hcp hR2 hb2 hO2 hY HNX
        clear hYY
        generalize ((pcs n L).take i).map hexS = ds at *
        have hld := load_list26 hR2 hY
        go_wp2_with (refine wpList_load_list rfl 26 (.tmp 4) rfl w.heap.size 0 rfl _ hld ?_)
        refine (hex_any Y hY _).mono ?_
        rintro e w3 ⟨rfl, hb3⟩
        have hO3 := Kd.R_below hO2 hb3
        have hR3 : Row w3 w.heap.size 26 _ := hR2.below hb3 hR2.lt
        replace hb3 := hb2.trans (hb3.mono hb2.size)
        clear hcp hO2 hR2 hb2 hld
        go_wp2_with ((with_reducible refine gate_builtin (b := .append) (xs := #[.tmp 17, .tmp 20]) rfl ?_); at_builtin; refine Kd.R_append Kd.string (w0 := w) w.heap.size rfl (.tmp 17) (.tmp 20) 23 9 (.string ⟨#[]⟩) 16 rfl Tryd.underlying23 info9 rfl (by decide) (by omega) u5 ds (hexS Y) [.string (hexS Y)] (fun k => k ≠ w.heap.size) (fun _ => False) rfl rfl rfl (fun _ hk => hk.elim) (fun k hk => by have := hR3.lt; omega) hO3 hb3 hb3.size (by omega) ?_)
        intro v8 w8 hO8 hb8 hg8 _
        have hne2 : some w.heap.size ≠ u5.ownBlock := fun e => hO3.1 _ e.symm rfl
        have hR8 : Row w8 w.heap.size 26 _ := hR3.grown hg8 hne2
        rw [← HNX.out] at hO8
        have q1 : ((32 : Int) ≤ ((bstr (L.drop (32 * i))).size : Int)) = True := eq_true (by omega)
        have q2 : (32 ≤ (bstr (L.drop (32 * i))).size) = True := eq_true (by omega)
        have hkey : (bstr (L.drop (32 * i))).extract 32 (32 * n - 32 * i) = bstr (L.drop (32 * (i + 1))) := by
          have := HDR.out
          rw [hms] at this
          exact this
        have HKEY := Sec.mk hkey
        clear hkey
        clear hO3 hR3 hb3 hg8 hne2
        go_wp2_with fail
        go_roundw
        case rel => exact ⟨i + 1, Y, by omega, hY, by rw [HKEY.out], hO8, hR8, hb8⟩
        case measure =>
          show ((bstr (L.drop (32 * i))).extract 32 (32 * n - 32 * i)).size < (bstr (L.drop (32 * i))).size
          rw [HKEY.out, hms2, hms]
          omega
      · have hin : i = n := by omega
        have hne : ((bstr (L.drop (32 * i))).toList == ([] : List UInt8)) = true := by
          rw [beq_iff_eq, ByteArray.toList_eq, bstr_list]
          exact List.drop_eq_nil_of_le (by rw [hL]; omega)
        have htk : ((pcs n L).take i).map hexS = (pcs n L).map hexS := by rw [List.take_of_length_le (by rw [pcs_len]; omega)]
        rw [htk] at hO
        have HO := Sec.mk hO
        clear hO htk
        generalize bstr (L.drop (32 * i)) = s0 at *
        go_wp2_with fail
        go_ret2
        exact ⟨⟨_, by rw [HOK.out]; rfl, by rw [HNO.out]; exact Kd.R_mono HO.out (fun _ _ => trivial)⟩, hb⟩
  · have hk : chOk s = false := decide_eq_false (by omega)
    have hno : namesOf s = [] := by unfold namesOf; rw [if_neg (by omega)]
    have hd : ¬ (r : Int) = 0 := by omega
    have HNO := Sec.mk hno
    have HOK := Sec.mk hk
    clear hno hk
    go_wp2_with fail
    go_ret2
    exact ⟨⟨_, by rw [HOK.out]; rfl, by rw [HNO.out]; exact Kd.R_nil _ _ _ _ _⟩, hb0⟩
end Go.Proofs.YtokcmaehojljdaaDoor

namespace Go.Proofs.YtokcmaehojljdaaDoor.PGet
open Go.RowKit Go.Proofs.YtokcmaehojljdaaDoorW.PrintWords Go.Proofs.YtokcmaehojljdaaDoorW.PrintLast Go.Proofs.YtokcmaehojljdaaDoorW.PrintMore
attribute [local go_sem] max2_int min2_int max_two min_two max_three min_three max_four min_four   -- for this text's walks alone
set_option linter.unusedVariables false
set_option linter.unusedSimpArgs false

-- NOT PRINTED: function 80 (strconv_ParseUint)

-- NOT PRINTED: function 70 (strconv_ParseInt_70)

-- NOT PRINTED: function 95 (stringslite_Clone)

-- NOT PRINTED: function 81 (strconv_syntaxError)

-- NOT PRINTED: function 82 (strconv_rangeError)

-- NOT PRINTED: function 96 (errors_New)

-- NOT PRINTED: function 100 (strconv_Itoa_100)

-- NOT PRINTED: function 97 (strconv_Itoa_97)

-- NOT PRINTED: function 83 (strconv_baseError)

-- NOT PRINTED: function 84 (strconv_bitSizeError)

-- NOT PRINTED: function 71 (strconv_toError)

-- NOT PRINTED: function 54 (strconv_ParseInt_54)

/-! ### num_Get: function 55 -/
def num_Get.l0 : Nat → ByteArray → Int → Int → Int → Option (Int)
  | 0, _, _, _, _ => none
  | k + 1, x0, x3, x7, x8 => if x8 < x7 then (if 0 ≤ x8 then (if x8 < (x0.size : Int) then (if 0 ≤ (wrap64 (8 * x8)) then (num_Get.l0 k x0 (Go.bits .or .u64 x3 (shl .u64 (IntKind.u64.wrap (bt x0 x8)) (wrap64 (8 * x8)))) x7 (wrap64 (x8 + 1))) else (none)) else (none)) else (none)) else (some x3)
def num_Get.f (k : Nat) (a0 : ByteArray) : Option (Int) := num_Get.l0 k a0 0 (mn (a0.size : Int) 8) 0
theorem num_Get.mono_l : ∀ k, (∀ y0 y1 y2 y3, LeO (num_Get.l0 k y0 y1 y2 y3) (num_Get.l0 (k + 1) y0 y1 y2 y3))
  | 0 => fun _ _ _ _ r h => by simp [num_Get.l0] at h
  | k + 1 => by
    have ih0 := num_Get.mono_l k
    · intro y0 y1 y2 y3
      unfold num_Get.l0
      repeat' first
      | (with_reducible exact ih0 _ _ _ _)
      | (with_reducible exact LeO.refl _)
      | (with_reducible exact LeO.none _)
      | (with_reducible refine LeO.ite ?_ ?_)
      | (with_reducible refine LeO.bind ?_ (fun _ => ?_))
      | exact ih0 _ _ _ _
      | exact LeO.none _
      | refine LeO.ite ?_ ?_
      | refine LeO.bind ?_ (fun _ => ?_)
theorem num_Get.mono : ∀ a0 k, LeO (num_Get.f k a0) (num_Get.f (k + 1) a0) := by
  intro a0 k
  have ih0 := num_Get.mono_l k
  unfold num_Get.f
  repeat' first
      | (with_reducible exact ih0 _ _ _ _)
      | (with_reducible exact LeO.refl _)
      | (with_reducible exact LeO.none _)
      | (with_reducible refine LeO.ite ?_ ?_)
      | (with_reducible refine LeO.bind ?_ (fun _ => ?_))
      | exact ih0 _ _ _ _
      | exact LeO.none _
      | refine LeO.ite ?_ ?_
      | refine LeO.bind ?_ (fun _ => ?_)
set_option maxHeartbeats 8000000 in
set_option maxRecDepth 100000 in
theorem num_Get.calls (k : Nat) (a0 : ByteArray) (r : Int) (w : World) (h : num_Get.f k a0 = some r) :
    Calls Tryd.prog 55 #[.string a0] w fun e w' => e = .returned (.int .u64 r) ∧ Below w.heap.size w w' := by
  have HB := Aside0.mk (Below.refl w.heap.size w)
  have H : (num_Get.l0 k a0 0 (mn (a0.size : Int) 8) 0) = some r := h
  clear h
  obtain ⟨ji2, hji2⟩ : ∃ j_ : Int, (mn (a0.size : Int) 8) = j_ := ⟨_, rfl⟩
  replace H : (num_Get.l0 k a0 0 ji2 0) = some r := by first | (rw [hji2] at H; exact H) | (simp only [hji2] at H ⊢; exact H)
  (try (have hji2h : ji2 ≤ 8 := by (rw [← hji2]; unfold mn; (repeat' split) <;> omega)))
  (try (have hji2g : ji2 ≤ 64 := by omega))
  (try (have hji2l : 0 ≤ ji2 := by (rw [← hji2]; unfold mn; (repeat' split) <;> omega)))
  (try (have hji2m : 0 ≤ ji2 := by omega))
  have hji2_ : (if 8 < (a0.size : Int) then 8 else (a0.size : Int)) = ji2 := hji2
  have H' := Aside0.mk H
  clear H
  go_enter Tryd.func55, Tryd.ntmps55
  go_wp2
  go_loopg [3, 8] k (fun kq v3 v8 w' => ∃ (x3_1 : Int) (x8_1 : Int), v3 = .int .u64 x3_1 ∧ v8 = .int .i64 x8_1 ∧ Aside0 (num_Get.l0 kq a0 x3_1 ji2 x8_1 = some r) ∧ Aside0 (kq ≤ k) ∧ Aside0 (Below w.heap.size w w'))
  case atStart => exact ⟨(0), (0), (by first | rfl | (simp; done) | (simp [*]; done)), (by first | rfl | (simp; done) | (simp [*]; done)), H', ⟨Nat.le_refl _⟩, ⟨by repeat (first | (with_reducible first | exact HB.out | apply below_alloc | apply pw_below_drewN | apply below_drew1) | exact HB.out)⟩⟩
  case round =>
    clear H'
    try clear p2
    obtain ⟨x3_1, x8_1, rfl, rfl, HA, HK1, HB⟩ := hrel
    cases gk with
    | zero => exact absurd HA.out (by simp [num_Get.l0])
    | succ k1 =>
      have H := HA.out
      clear HA
      simp only [num_Get.l0] at H
      by_cases c3 : x8_1 < ji2
      · rw [if_pos c3] at H
        have c3b0 : decide (x8_1 < ji2) = true := decide_eq_true c3
        clear c3
        by_cases c4 : 0 ≤ x8_1
        · rw [if_pos c4] at H
          have c4b0 : decide (0 ≤ x8_1) = true := decide_eq_true c4
          clear c4
          by_cases c5 : x8_1 < (a0.size : Int)
          · rw [if_pos c5] at H
            have c5b0 : decide (x8_1 < (a0.size : Int)) = true := decide_eq_true c5
            clear c5
            obtain ⟨ji7, hji7⟩ : ∃ j_ : Int, (wrap64 (8 * x8_1)) = j_ := ⟨_, rfl⟩
            replace H : (if 0 ≤ (ji7) then (num_Get.l0 k1 a0 (Go.bits .or .u64 x3_1 (shl .u64 (IntKind.u64.wrap (bt a0 x8_1)) (ji7))) ji2 (wrap64 (x8_1 + 1))) else (none)) = some r := by first | (rw [hji7] at H; exact H) | (simp only [hji7] at H ⊢; exact H)
            have hji7w : (IntKind.i64.wrap (8 * x8_1)) = ji7 := (i64_w _).trans hji7
            by_cases c8 : 0 ≤ (ji7)
            · rw [if_pos c8] at H
              have c8b0 := eq_true c8
              have c8b1 : decide (0 ≤ (ji7)) = true := decide_eq_true c8
              clear c8
              obtain ⟨ji9, hji9⟩ : ∃ j_ : Int, (shl .u64 (IntKind.u64.wrap (bt a0 x8_1)) (ji7)) = j_ := ⟨_, rfl⟩
              replace H : (num_Get.l0 k1 a0 (Go.bits .or .u64 x3_1 (ji9)) ji2 (wrap64 (x8_1 + 1))) = some r := by first | (rw [hji9] at H; exact H) | (simp only [hji9] at H ⊢; exact H)
              have hji9_ : (IntKind.u64.wrap ((IntKind.u64.wrap (bt a0 x8_1)) * 2 ^ min (ji7).toNat 64)) = ji9 := hji9
              have hji9z : (ji7) ≤ 64 → (IntKind.u64.wrap ((IntKind.u64.wrap (bt a0 x8_1)) * 2 ^ (ji7).toNat)) = ji9 := shl_small hji9
              have H' := Aside0.mk H
              clear H
              have p6 : 0 ≤ (x8_1 : Int) := of_decide_eq_true (by first | (with_reducible assumption) | assumption)
              have q6 : x8_1 < (a0.size : Int) := of_decide_eq_true (by first | (with_reducible assumption) | assumption)
              have hx6 := bt_at a0 x8_1
              replace p6 := eq_true p6
              replace q6 := eq_true q6
              go_wp2
              go_roundg k1
              case measure => have := HK1.out; omega
              case rel => exact ⟨(Go.bits .or .u64 x3_1 (ji9)), (wrap64 (x8_1 + 1)), (by first | rfl | (simp; done) | (simp only [← hji9] <;> (first | rfl | simp)) | (simp [*]; done)), (by first | rfl | (simp; done) | (simp [*]; done)), H', ⟨by have := HK1.out; omega⟩, ⟨by repeat (first | (with_reducible first | exact HB.out | apply below_alloc | apply pw_below_drewN | apply below_drew1) | exact HB.out)⟩⟩
            · rw [if_neg c8] at H
              exact absurd H (by simp)
          · rw [if_neg c5] at H
            exact absurd H (by simp)
        · rw [if_neg c4] at H
          exact absurd H (by simp)
      · rw [if_neg c3] at H
        have c3b0 : decide (x8_1 < ji2) = false := decide_eq_false c3
        clear c3
        obtain rfl := Option.some.inj H
        go_wp2
        go_ret
        exact ⟨by first | rfl | (simp [errW_none, errW_some] <;> rfl) | (simp only [← hji2]; first | rfl | (simp [errW_none, errW_some] <;> rfl)) | (simp [*, errW_none, errW_some] <;> rfl), by repeat (first | (with_reducible first | exact HB.out | apply below_alloc | apply pw_below_drewN | apply below_drew1) | exact HB.out)⟩

-- NOT PRINTED: function 85 (strings_Builder_WriteByte)

-- NOT PRINTED: function 72 (hash_Hex)

-- NOT PRINTED: function 57 (manifest_chunks)

-- NOT PRINTED: function 31 (manifest_Of)

-- NOT PRINTED: function 15 (wire_Get)

-- NOT PRINTED: function 50 (hibernacleref44_plain)

-- NOT PRINTED: function 27 (hibernacleref44_alone)
end Go.Proofs.YtokcmaehojljdaaDoor.PGet

/- num.Get: the number of bytes, what it computes. -/
namespace Go.Proofs.YtokcmaehojljdaaDoor
open Go.RowKit Go.Proofs.YtokcmaehojljdaaDoorW.PrintWords Go.Proofs.YtokcmaehojljdaaDoorW.PrintLast Go.Proofs.YtokcmaehojljdaaDoorW.PrintMore

theorem drop_at {α : Type} (l : List α) (i : Nat) (s : α) (h : l[i]? = some s) : l.drop i = s :: l.drop (i + 1) := by
  obtain ⟨hl, e⟩ := List.getElem?_eq_some_iff.1 h
  rw [← e]; exact List.drop_eq_getElem_cons hl
theorem bt_at_list (s : ByteArray) (i : Nat) (c : UInt8) (h : s.data.toList[i]? = some c) : bt s (i : Int) = c.toNat := by
  have := drop_at s.data.toList i c h
  exact (bt_list s i c _ this).1
theorem or_sum (a b i : Nat) (ha : a < 256 ^ i) (hi : i < 8) (hb : b < 256) : Go.bits .or .u64 (a : Int) (shl .u64 (b : Int) ((8 * i : Nat) : Int)) = ((a + b * 256 ^ i : Nat) : Int) := by
  have hp : (256 : Nat) ^ i * 256 ≤ 18446744073709551616 := by
    have : (256 : Nat) ^ (i + 1) ≤ 256 ^ 8 := Nat.pow_le_pow_right (by decide) (by omega)
    rw [Nat.pow_succ] at this
    simpa using this
  have e0 : shl .u64 (b : Int) ((8 * i : Nat) : Int) = ((b * 256 ^ i : Nat) : Int) := by
    unfold shl
    have e1 : min ((8 * i : Nat) : Int).toNat IntKind.u64.bits = 8 * i := by
      rw [Int.toNat_natCast]; exact Nat.min_eq_left (by show 8 * i ≤ 64; omega)
    rw [e1]
    have e2 : ((b : Int) * 2 ^ (8 * i)) = ((b * 256 ^ i : Nat) : Int) := by
      rw [Int.natCast_mul, Int.natCast_pow, Int.pow_mul]; rfl
    rw [e2]
    have h2 : b * 256 ^ i ≤ 255 * 256 ^ i := Nat.mul_le_mul_right _ (by omega)
    generalize b * 256 ^ i = x at *
    generalize (256 : Nat) ^ i = p at *
    exact IntWalk.u64_in _ (by omega)
  rw [e0]
  have e3 : a + b * 256 ^ i = a ||| b * 256 ^ i := by
    have h := Nat.two_pow_add_eq_or_of_lt (i := 8 * i) (b := a) (by rw [Nat.pow_mul]; exact ha) b
    rw [Nat.pow_mul] at h
    have h' : (2 ^ 8) ^ i = (256 : Nat) ^ i := rfl
    rw [h', Nat.mul_comm] at h
    rw [Nat.add_comm, h, Nat.or_comm]
  have h2 : b * 256 ^ i ≤ 255 * 256 ^ i := Nat.mul_le_mul_right _ (by omega)
  rw [e3]
  generalize b * 256 ^ i = x at *
  generalize (256 : Nat) ^ i = p at *
  exact u64_or_nat a x (by omega) (by omega)
theorem get_loop (s : ByteArray) (z : Nat) (hz : z ≤ 8) (hs : z ≤ s.size) (d : Nat) : ∀ (i k : Nat), i + d = z → d < k →
    PGet.num_Get.l0 k s ((getU (s.data.toList.take i) : Nat) : Int) (z : Int) i = some ((getU (s.data.toList.take z) : Nat) : Int) := by
  induction d with
  | zero =>
    intro i k hi hk
    obtain ⟨k, rfl⟩ : ∃ m, k = m + 1 := ⟨k - 1, by omega⟩
    obtain rfl : i = z := by omega
    rw [PGet.num_Get.l0, if_neg (by omega)]
  | succ d ih =>
    intro i k hi hk
    obtain ⟨k, rfl⟩ : ∃ m, k = m + 1 := ⟨k - 1, by omega⟩
    have hlt : i < s.data.toList.length := by simp; omega
    have hsi : s.data.toList[i]? = some s.data.toList[i] := List.getElem?_eq_getElem hlt
    generalize s.data.toList[i] = c at *
    have hc := c.toNat_lt
    have ht : s.data.toList.take (i + 1) = s.data.toList.take i ++ [c] := by rw [List.take_add_one, hsi]; rfl
    have hl : (s.data.toList.take i).length = i := by rw [List.length_take]; omega
    have hg := getU_lt (s.data.toList.take i)
    rw [hl] at hg
    have w1 : wrap64 (8 * (i : Int)) = ((8 * i : Nat) : Int) := wrap_nat _ _ (by clear hg; omega) (by clear hg; omega)
    have w2 : wrap64 ((i : Int) + 1) = ((i + 1 : Nat) : Int) := wrap_nat _ _ rfl (by clear w1 hg; omega)
    have w3 : IntKind.u64.wrap ((c.toNat : Nat) : Int) = ((c.toNat : Nat) : Int) := IntWalk.u64_in _ (by clear w1 w2 hg; omega)
    rw [PGet.num_Get.l0, w1, w2, bt_at_list s i c hsi, w3, or_sum _ _ i hg (by clear w1 w2 w3 hg; omega) hc]
    clear w1 w2 w3
    have z1 := ih (i + 1) k (by clear hg; omega) (by clear hg; omega)
    rw [ht, getU_snoc, hl] at z1
    clear hg
    rw [if_pos (by omega), if_pos (by omega), if_pos (by omega), if_pos (by omega)]
    exact z1
theorem get_f (s : ByteArray) (hs : s.size ≤ 140737488351232) (k : Nat) (hk : 8 < k) : PGet.num_Get.f k s = some ((getU (s.data.toList.take 8) : Nat) : Int) := by
  unfold PGet.num_Get.f
  have e : mn (s.size : Int) 8 = ((min s.size 8 : Nat) : Int) := by unfold mn; split <;> omega
  rw [e]
  have h := get_loop s (min s.size 8) (by omega) (by omega) (min s.size 8) 0 k (by omega) (by omega)
  have e2 : s.data.toList.take (min s.size 8) = s.data.toList.take 8 := by
    by_cases hh : s.size ≤ 8
    · rw [Nat.min_eq_left hh, List.take_of_length_le (by simp), List.take_of_length_le (by simp; exact hh)]
    · rw [Nat.min_eq_right (by omega)]
  rw [e2] at h
  exact h
theorem get8_any (s : ByteArray) (hs : s.size = 8) (w : World) : Calls Tryd.prog 55 #[.string s] w fun e w' => e = .returned (.int .u64 ((getU s.data.toList : Nat) : Int)) ∧ Below w.heap.size w w' := by
  have h := get_f s (by omega) 9 (by omega)
  rw [List.take_of_length_le (by simp; omega)] at h
  exact (PGet.num_Get.calls 9 s _ w h).mono fun _ _ h => ⟨h.1, h.2⟩
end Go.Proofs.YtokcmaehojljdaaDoor

/- Bytes cut short, or with more behind them, are no row of two texts. -/
namespace Go.Proofs.YtokcmaehojljdaaDoor
open Go.RowKit Go.Proofs.YtokcmaehojljdaaDoorW.PrintWords Go.Proofs.YtokcmaehojljdaaDoorW.PrintLast Go.Proofs.YtokcmaehojljdaaDoorW.PrintMore

theorem row_app (a x : ByteArray) (X Y : List UInt8) (h : lenU a.size ++ (a.data.toList ++ X) = lenU x.size ++ (x.data.toList ++ Y)) : X = Y := by
  obtain ⟨h1, h2⟩ := lenU_inj a.size x.size _ _ h
  exact (List.append_inj h2 (by simpa using h1)).2
theorem two_cut (a b x y : ByteArray) (R : List UInt8) (h : rowU [a, b] ++ R = rowU [x, y]) : R = [] := by
  have e1 : rowU [a, b] ++ R = lenU a.size ++ (a.data.toList ++ (lenU b.size ++ (b.data.toList ++ R))) := by simp [rowU]
  have e2 : rowU [x, y] = lenU x.size ++ (x.data.toList ++ (lenU y.size ++ (y.data.toList ++ []))) := by simp [rowU]
  rw [e1, e2] at h
  exact row_app _ _ _ _ (row_app _ _ _ _ h)
/-- The texts of bytes, or the error. -/
def ofRow (s : ByteArray) : List ByteArray × Nat := tl (s.size + 1) s.data.toList []
theorem ofRow_back (s : ByteArray) (r : List ByteArray) (h : ofRow s = (r, 0)) : rowU r = s.data.toList := by
  have := tl_back (s.size + 1) s.data.toList [] r (by simp) h
  simpa [rowU] using this
/-- No row of two texts. -/
def Not2 (s : ByteArray) : Prop := (ofRow s).2 ≠ 0 ∨ (ofRow s).1.length ≠ 2
theorem not2_of (s : ByteArray) (h : ∀ x y, rowU [x, y] ≠ s.data.toList) : Not2 s := by
  by_cases h0 : (ofRow s).2 = 0
  · refine .inr (fun h2 => ?_)
    cases e : (ofRow s).1 with
    | nil => rw [e] at h2; exact absurd h2 (by decide)
    | cons x l =>
      cases l with
      | nil => rw [e] at h2; exact absurd h2 (by simp)
      | cons y l =>
        cases l with
        | nil => exact h x y (ofRow_back s [x, y] (Prod.ext e h0))
        | cons z l => rw [e] at h2; simp at h2
  · exact .inl h0
theorem not2_short (a b s : ByteArray) (R : List UInt8) (hR : R ≠ []) (h : s.data.toList ++ R = rowU [a, b]) : Not2 s :=
  not2_of s fun x y e => hR (two_cut x y a b R (by rw [e, h]))
theorem not2_more (a b s : ByteArray) (R : List UInt8) (hR : R ≠ []) (h : s.data.toList = rowU [a, b] ++ R) : Not2 s :=
  not2_of s fun x y e => hR (two_cut a b x y R (by rw [e, h]))
/-- What is written is read. -/
theorem ofRow_row (l : List ByteArray) (s : ByteArray) (h : s.data.toList = rowU l) (hs : ∀ x ∈ l, x.size < 268435456) : ofRow s = (l, 0) := by
  have hc := rowU_count l
  have hsz : s.size = (rowU l).length := by rw [← h]; simp
  have := tl_row l (s.size + 1) [] [] (by omega) hs
  unfold ofRow
  rw [h]
  rw [List.append_nil] at this
  rw [this]
  obtain ⟨d, hd⟩ : ∃ d, s.size + 1 - l.length = d + 1 := ⟨s.size - l.length, by omega⟩
  rw [hd, tl, List.nil_append]
end Go.Proofs.YtokcmaehojljdaaDoor

/- wire.Put: its walk. -/
namespace Go.Proofs.YtokcmaehojljdaaDoor
open Go.RowKit Go.Shelf Go.Proofs.YtokcmaehojljdaaDoorW.PrintWords Go.Proofs.YtokcmaehojljdaaDoorW.PrintLast Go.Proofs.YtokcmaehojljdaaDoorW.PrintMore

def loadMs (m : Ms) : ByteArray := if m.kind = 3 then bytesSn m.snap else if m.kind = 4 then dec m.n else if m.kind = 5 then dec m.why else m.data
def putMs (m : Ms) : ByteArray := if checkMs m = 0 then ⟨(rowU [dec m.kind, loadMs m]).toArray⟩ else ⟨#[]⟩
/-- What a message that may be is like. -/
theorem checkMs_zero (m : Ms) (h : checkMs m = 0) : (1 ≤ m.kind ∧ m.kind ≤ 6) ∧ goodHas m = true ∧ ¬ (m.kind = 1 ∧ 65536 < m.data.size) ∧ ¬ ((m.kind = 2 ∧ (m.data.size < 1 ∨ 100 < m.data.size)) ∨ m.n < 0 ∨ (m.kind = 5 ∧ (m.why < 1 ∨ 23 < m.why))) ∧ (m.kind = 3 → checkSn m.snap = 0) := by
  unfold checkMs at h
  by_cases h1 : okKind m.kind = false
  · rw [if_pos h1] at h; exact absurd h (by decide)
  rw [if_neg h1] at h
  by_cases h2 : goodHas m = false
  · rw [if_pos h2] at h; exact absurd h (by decide)
  rw [if_neg h2] at h
  by_cases h3 : m.kind = 1 ∧ 65536 < m.data.size
  · rw [if_pos h3] at h; exact absurd h (by decide)
  rw [if_neg h3] at h
  by_cases h4 : (m.kind = 2 ∧ (m.data.size < 1 ∨ 100 < m.data.size)) ∨ m.n < 0 ∨ (m.kind = 5 ∧ (m.why < 1 ∨ 23 < m.why))
  · rw [if_pos h4] at h; exact absurd h (by decide)
  rw [if_neg h4] at h
  have h1' : okKind m.kind = true := by simpa using h1
  rw [okKind, Bool.and_eq_true, decide_eq_true_eq, decide_eq_true_eq] at h1'
  exact ⟨h1', by simpa using h2, h3, h4, fun h5 => by rw [if_pos h5] at h; exact h⟩
theorem dec_size_le (n : Int) (hn : -9223372036854775808 ≤ n ∧ n ≤ 9223372036854775807) : (dec n).size ≤ 21 := by
  have := Lib.itoa_length_le n hn.1 hn.2
  have e : (dec n).size = (Lib.itoa n).length := bytes_size _
  omega
theorem load_len (m : Ms) (h : checkMs m = 0) (hs : m.snap.sum.length = 32) (hn : -9223372036854775808 ≤ m.snap.n ∧ m.snap.n ≤ 9223372036854775807) (hat : -9223372036854775808 ≤ m.snap.at_ ∧ m.snap.at_ ≤ 9223372036854775807)
    (hp : -9223372036854775808 ≤ m.snap.pages ∧ m.snap.pages ≤ 9223372036854775807) (hb : -9223372036854775808 ≤ m.snap.blocks ∧ m.snap.blocks ≤ 9223372036854775807)
    (hmn : -9223372036854775808 ≤ m.n ∧ m.n ≤ 9223372036854775807) (hmw : -9223372036854775808 ≤ m.why ∧ m.why ≤ 9223372036854775807) : (loadMs m).size ≤ 1000000 := by
  obtain ⟨h1, h2, h3, h4, h5⟩ := checkMs_zero m h
  unfold loadMs
  by_cases k3 : m.kind = 3
  · rw [if_pos k3, bytesSn, if_pos (h5 k3), bytes_size]
    exact rowSn_len m.snap (h5 k3) hs hn hat hp hb
  rw [if_neg k3]
  by_cases k4 : m.kind = 4
  · rw [if_pos k4]; have := dec_size_le m.n hmn; omega
  rw [if_neg k4]
  by_cases k5 : m.kind = 5
  · rw [if_pos k5]; have := dec_size_le m.why hmw; omega
  rw [if_neg k5]
  by_cases k1 : m.kind = 1
  · omega
  by_cases k2 : m.kind = 2
  · omega
  have hm1 : may1 m.kind = false := by simp [may1, k1, k2]
  unfold goodHas at h2
  rw [hm1, Bool.and_false, Bool.and_eq_true, Bool.and_eq_true, Bool.and_eq_true] at h2
  have h6 := h2.1.1.1
  have h7 : m.data.toList = [] := by
    cases hh : m.data.toList with
    | nil => rfl
    | cons a l => rw [hh] at h6; simp at h6
  rw [ByteArray.toList_eq] at h7
  have h8 : m.data.size = 0 := by
    have := congrArg List.length h7
    simpa using this
  omega
set_option maxHeartbeats 8000000 in
set_option maxRecDepth 100000 in
theorem put_any (m : Ms) (v0 v1 v2 : Value) (w : World) (h : MsOk w m v0 v1 v2) (hl : Laid w) :
    Calls Tryd.prog 10 #[.agg (msL m v0 v1 v2).toArray] w fun e w' => e = .returned (.tuple #[.string (putMs m), .int .i64 (checkMs m)]) ∧ Below w.heap.size w w' := by
  have hs := h.snap.hs
  have hM := Row.new w (msL m v0 v1 v2).toArray 31
  have hb0 := (Below.refl w.heap.size w).alloc (Nat.le_refl _) (.cells (msL m v0 v1 v2).toArray 31)
  have hlt0 : w.heap.size < (w.alloc (.cells (msL m v0 v1 v2).toArray 31)).heap.size := by rw [size_alloc]; omega
  go_enter Tryd.func10, Tryd.ntmps10
  go_upto_region 1 with (fail)
  refine wp_abs (fun W HW => ?_)
  rw [← HW.out] at hM hb0 hlt0
  clear HW
  have hwh := ms_whole hM hs
  go_wp2_with (refine wpList_load_list rfl 31 (.tmp 1) rfl w.heap.size 0 rfl _ hwh ?_)
  clear hwh
  refine (wcheck_any m v0 v1 v2 _ (h.below hb0)).mono ?_
  rintro e w1 ⟨rfl, hb1⟩
  have hM1 : Row w1 w.heap.size 31 _ := hM.below hb1 hlt0
  replace hb1 := hb0.trans (hb1.mono hb0.size)
  clear hM hb0 hlt0
  have hpu : putMs m = if checkMs m = 0 then ⟨(rowU [dec m.kind, loadMs m]).toArray⟩ else ⟨#[]⟩ := rfl
  have hlo : loadMs m = if m.kind = 3 then bytesSn m.snap else if m.kind = 4 then dec m.n else if m.kind = 5 then dec m.why else m.data := rfl
  by_cases hck : checkMs m = 0
  · rw [if_pos hck] at hpu
    have hkr := (checkMs_zero m hck).1
    have hlen := load_len m hck hs h.snap.hn h.snap.hat h.snap.hp h.snap.hb h.hn h.hw
    have hrf : num_Row.f [dec m.kind, loadMs m] = some ⟨(rowU [dec m.kind, loadMs m]).toArray⟩ := by
      unfold num_Row.f
      have hd := dec_size_le m.kind h.hk
      have := rowU_bound 1000000 (by decide) [dec m.kind, loadMs m] (fun x hx => by
        rcases List.mem_cons.1 hx with rfl | hx
        · omega
        · rw [List.mem_singleton.1 hx]; exact hlen)
      rw [if_pos (by simp only [List.length_cons, List.length_nil] at this; omega)]
    rw [hck]
    have HPU := Sec.mk hpu
    have HCK := Sec.mk hck
    have HLO := Sec.mk hlo
    have HRF := Sec.mk hrf
    have H := Sec.mk h
    clear hpu hck hlo hrf hlen h
    obtain ⟨k0, k1, k2, k3⟩ := ms_cells hM1 hs
    have hsn := Sec.mk (ms_snap hM1 hs)
    go_upto_block 0 with (fail)
    go_cut [5, 14] (fun v5 _ wc => v5 = .string (loadMs m) ∧ Row wc w.heap.size 31 (msL m v0 v1 v2).toArray ∧ Below w.heap.size w wc)
    case first =>
      have hkc : m.kind = 1 ∨ m.kind = 2 ∨ m.kind = 3 ∨ m.kind = 4 ∨ m.kind = 5 ∨ m.kind = 6 := by omega
      clear hkr
      rcases hkc with hk | hk | hk | hk | hk | hk
      · rw [hk] at k0 ⊢
        have HK := Sec.mk hk
        clear hk
        go_wp2_with fail
        go_meet
        exact ⟨by rw [HLO.out, if_neg (by have := HK.out; omega), if_neg (by have := HK.out; omega), if_neg (by have := HK.out; omega)], hM1, hb1⟩
      · rw [hk] at k0 ⊢
        have HK := Sec.mk hk
        clear hk
        go_wp2_with fail
        go_meet
        exact ⟨by rw [HLO.out, if_neg (by have := HK.out; omega), if_neg (by have := HK.out; omega), if_neg (by have := HK.out; omega)], hM1, hb1⟩
      · rw [hk] at k0 ⊢
        have HK := Sec.mk hk
        clear hk
        go_wp2_with (refine wpList_load_list rfl 28 (.tmp 18) rfl w.heap.size 2 rfl _ hsn.out ?_)
        refine (bytes_any m.snap v0 v1 v2 _ (H.out.snap.below hb1) (hl.below hb1)).mono ?_
        rintro e w2 ⟨rfl, hb2⟩
        have hM2 := hM1.below hb2 hM1.lt
        replace hb2 := hb1.trans (hb2.mono hb1.size)
        generalize checkSn m.snap = z
        go_wp2_with fail
        go_meet
        exact ⟨by rw [HLO.out, if_pos HK.out], hM2, hb2⟩
      · rw [hk] at k0 ⊢
        have HK := Sec.mk hk
        clear hk
        go_wp2_with fail
        refine (dec_any m.n H.out.hn.1 H.out.hn.2 _ (hl.below hb1)).mono ?_
        rintro e w2 ⟨rfl, hb2⟩
        have hM2 := hM1.below hb2 hM1.lt
        replace hb2 := hb1.trans (hb2.mono hb1.size)
        go_wp2_with fail
        go_meet
        exact ⟨by rw [HLO.out, if_neg (by have := HK.out; omega), if_pos HK.out], hM2, hb2⟩
      · rw [hk] at k0 ⊢
        have HK := Sec.mk hk
        clear hk
        go_wp2_with fail
        refine (dec_any m.why H.out.hw.1 H.out.hw.2 _ (hl.below hb1)).mono ?_
        rintro e w2 ⟨rfl, hb2⟩
        have hM2 := hM1.below hb2 hM1.lt
        replace hb2 := hb1.trans (hb2.mono hb1.size)
        go_wp2_with fail
        go_meet
        exact ⟨by rw [HLO.out, if_neg (by have := HK.out; omega), if_neg (by have := HK.out; omega), if_pos HK.out], hM2, hb2⟩
      · rw [hk] at k0 ⊢
        have HK := Sec.mk hk
        clear hk
        go_wp2_with fail
        go_meet
        exact ⟨by rw [HLO.out, if_neg (by have := HK.out; omega), if_neg (by have := HK.out; omega), if_neg (by have := HK.out; omega)], hM1, hb1⟩
    case rest =>
      clear hM1 hb1 k0 k1 k2 k3
      obtain ⟨rfl, hM2, hb2⟩ := hcut
      obtain ⟨k0, -, -, -⟩ := ms_cells hM2 hs
      have hk := H.out.hk
      have hlc := hl.below hb2
      have hMl := hM2.lt
      clear hM2
      go_wp2_with fail
      refine (dec_any m.kind hk.1 hk.2 _ hlc).mono ?_
      rintro e w3 ⟨rfl, hb3⟩
      have hb3s := hb3.size
      replace hb3 := hb2.trans (hb3.mono hb2.size)
      have hb4 := hb3.alloc hb3.size (.cells #[.string (dec m.kind), .string (loadMs m)] 9)
      have hlt : w.heap.size < w3.heap.size := Nat.lt_of_lt_of_le hMl hb3s
      have hC := (Kd.R_reads' (R_new w3 w.heap.size hlt [dec m.kind, loadMs m] (by simp))).2.2
      go_wp2_with fail
      refine (num_Row.calls (some ⟨w3.heap.size, 0, none⟩) 2 [dec m.kind, loadMs m] _ _ hC (by simp) HRF.out).mono ?_
      rintro e w5 ⟨rfl, hb5⟩
      have hb6 := hb4.trans (hb5.mono hb4.size)
      go_wp2_with fail
      go_ret2
      exact ⟨by rw [HPU.out, HCK.out]; rfl, hb6⟩
  · rw [if_neg hck] at hpu
    have HPU := Sec.mk hpu
    have HCK := Sec.mk hck
    clear hpu hck hlo
    generalize hcz : checkMs m = z at HCK ⊢
    have HCZ := Sec.mk hcz
    clear hcz
    have hz : (z != 0) = true := bne_iff_ne.2 HCK.out
    have hz2 : ¬ z = 0 := HCK.out
    go_wp2_with fail
    go_ret2
    exact ⟨by rw [HPU.out, HCZ.out]; rfl, hb1⟩
end Go.Proofs.YtokcmaehojljdaaDoor

/- The law's example, and 'Great': their walks. -/
namespace Go.Proofs.YtokcmaehojljdaaDoor
open Go.RowKit Go.Shelf Go.Proofs.YtokcmaehojljdaaDoorW.PrintWords Go.Proofs.YtokcmaehojljdaaDoorW.PrintLast Go.Proofs.YtokcmaehojljdaaDoorW.PrintMore

def sn0 : Sn := ⟨⟨#[]⟩, 0, 0, 0, 0, 0, [], [], [], List.replicate 32 0⟩
def m6 : Ms := ⟨6, ⟨#[]⟩, sn0, 0, 0⟩
theorem texts_nil (w : World) : TextsAt w (.slice none 0 0) [] := ⟨none, 0, rfl, Nat.le_refl _, Kd.C_nil _ _, by simp, by simp⟩
theorem m6_ok (w : World) : MsOk w m6 (.slice none 0 0) (.slice none 0 0) (.slice none 0 0) :=
  ⟨⟨texts_nil w, texts_nil w, texts_nil w, by decide, by decide, by decide, by decide, by decide, by decide, by decide⟩, by decide, by decide, by decide, by decide⟩
theorem nil_list : (⟨#[]⟩ : ByteArray).toList = [] := by rw [ByteArray.toList_eq]
theorem m6_empty : emptyB sn0 = true := by
  simp [emptyB, sn0]
theorem m6_check : checkMs m6 = 0 := by
  have h1 : okKind 6 = true := by decide
  have h2 : goodHas m6 = true := by
    simp [goodHas, m6, m6_empty]
  unfold checkMs
  rw [if_neg (by show ¬ (okKind 6 = false); rw [h1]; decide), if_neg (by rw [h2]; decide), if_neg (by simp [m6]), if_neg (by simp [m6]), if_neg (by simp [m6])]
theorem dec_six : dec 6 = ⟨#[54]⟩ := by
  unfold dec Lib.itoa
  rw [if_neg (by decide), show (6 : Int).toNat = 6 from rfl, Lib.decDigits_one (by decide)]
  rfl
theorem m6_put : putMs m6 = ⟨(rowU [⟨#[54]⟩, ⟨#[]⟩]).toArray⟩ := by
  rw [putMs, if_pos m6_check]
  have e : loadMs m6 = ⟨#[]⟩ := by
    unfold loadMs
    rw [if_neg (by decide), if_neg (by decide), if_neg (by decide)]
    rfl
  rw [e, show m6.kind = 6 from rfl, dec_six]
theorem six_row : num_Row.f [⟨#[54]⟩, ⟨#[]⟩] = some ⟨(rowU [⟨#[54]⟩, ⟨#[]⟩]).toArray⟩ := by
  unfold num_Row.f
  have := rowU_bound 10 (by decide) [(⟨#[54]⟩ : ByteArray), ⟨#[]⟩] (by decide)
  rw [if_pos (by simp only [List.length_cons, List.length_nil] at this; omega)]
set_option maxHeartbeats 2000000 in
set_option maxRecDepth 100000 in
theorem awake_any (w : World) (hl : Laid w) : Calls Tryd.prog 9 #[] w fun e w' => e = .returned (.bool true) ∧ Below w.heap.size w w' := by
  have HP := Sec.mk (put_any m6 _ _ _ w (m6_ok w) hl)
  go_enter Tryd.func9, Tryd.ntmps9
  go_wp2_with fail
  refine HP.out.mono ?_
  rintro e w1 ⟨rfl, hb1⟩
  rw [m6_check, m6_put]
  have hR := R_new w1 0 (Nat.lt_of_lt_of_le hl.pos hb1.size) [⟨#[54]⟩, ⟨#[]⟩] (by simp)
  have hC := (Kd.R_reads' hR).2.2
  have HRR := Sec.mk (rfl : rowU [⟨#[54]⟩, ⟨#[]⟩] = rowU [⟨#[54]⟩, ⟨#[]⟩])
  have HS := Sec.mk six_row
  generalize rowU [⟨#[54]⟩, ⟨#[]⟩] = L at HS ⊢
  have hb2 := hb1.alloc hb1.size (.cells #[.string ⟨#[54]⟩, .string ⟨#[]⟩] 9)
  have hLL : ((⟨L.toArray⟩ : ByteArray).toList == (⟨L.toArray⟩ : ByteArray).toList) = true := beq_self_eq_true _
  go_wp2_with fail
  refine (num_Row.calls (some ⟨w1.heap.size, 0, none⟩) 2 [⟨#[54]⟩, ⟨#[]⟩] _ _ hC (by simp) HS.out).mono ?_
  rintro e w3 ⟨rfl, hb3⟩
  have hb4 := hb2.trans (hb3.mono hb2.size)
  go_wp2_with fail
  go_ret
  exact ⟨rfl, hb4⟩
theorem ms_list {w : World} {b : Nat} {m : Ms} {v : Nat → Value} (h : Row w b 31 (msL m (v 0) (v 1) (v 2)).toArray) (i : Nat) (hi : i < 3) : w.cell? ⟨b, 8 + i, none⟩ = some (v i) := by
  rw [h.at_ (8 + i)]
  have hc : i = 0 ∨ i = 1 ∨ i = 2 := by omega
  rcases hc with rfl | rfl | rfl <;> rfl
set_option maxHeartbeats 4000000 in
set_option maxRecDepth 100000 in
theorem great_any (m : Ms) (v0 v1 v2 : Value) (w : World) (h : MsOk w m v0 v1 v2) : Calls Tryd.prog 8 #[.agg (msL m v0 v1 v2).toArray] w fun e w' => (∃ r : Int, e = .returned (.int .i64 r)) ∧ Below w.heap.size w w' := by
  have hs := h.snap.hs
  have hms := h.snap.hm
  have hds := h.hd
  obtain ⟨A, c, rfl, rfl, rfl, hlst⟩ := lists_at h.snap
  have HL := Sec.mk hlst
  clear h hlst
  have hM := Row.new w (msL m (.slice (A 0) (lst m.snap 0).length (c 0)) (.slice (A 1) (lst m.snap 1).length (c 1)) (.slice (A 2) (lst m.snap 2).length (c 2))).toArray 31
  have hb0 := (Below.refl w.heap.size w).alloc (Nat.le_refl _) (.cells (msL m (.slice (A 0) (lst m.snap 0).length (c 0)) (.slice (A 1) (lst m.snap 1).length (c 1)) (.slice (A 2) (lst m.snap 2).length (c 2))).toArray 31)
  go_enter Tryd.func8, Tryd.ntmps8
  go_upto_region 1 with (fail)
  refine wp_abs (fun W HW => ?_)
  rw [← HW.out] at hM hb0
  clear HW
  obtain ⟨-, k1, -, -⟩ := ms_cells hM hs
  have k2 : W.cell? ⟨w.heap.size, 2, none⟩ = some (.string m.snap.mach) := hM.at_ 2
  go_wp2_with fail
  go_loopw [3, 4] (fun v3 v4 wr => ∃ (i : Nat) (x : Int), i ≤ 3 ∧ v4 = .int .i64 i ∧ v3 = .int .i64 x ∧ Row wr w.heap.size 31 (msL m (.slice (A 0) (lst m.snap 0).length (c 0)) (.slice (A 1) (lst m.snap 1).length (c 1)) (.slice (A 2) (lst m.snap 2).length (c 2))).toArray ∧ Below w.heap.size w wr) (fun _ v4 _ => 3 - (intOf v4).toNat)
  case atStart => exact ⟨0, _, by omega, rfl, rfl, hM, hb0⟩
  case round =>
    clear hM hb0 k1 k2
    obtain ⟨i, x, hi, rfl, rfl, hM, hb⟩ := hrel
    by_cases hlt : i < 3
    · have hd : decide ((i : Int) < 3) = true := decide_eq_true (by omega)
      have kc := ms_list (v := fun i => .slice (A i) (lst m.snap i).length (c i)) hM i hlt
      obtain ⟨hli, hC, hln, _⟩ := HL.out i hlt
      have hCr := Kd.C_below hC hb
      obtain ⟨w0, hw0⟩ : ∃ w0, w0 = wr := ⟨_, rfl⟩
      subst hw0
      have HM := Sec.mk hM
      clear hM hC hli
      generalize lst m.snap i = ll at kc hCr hln ⊢
      generalize A i = Ai at kc hCr ⊢
      have p1 : (0 ≤ (i : Int)) = True := eq_true (by omega)
      have q1 : ((i : Int) < 3) = True := eq_true (by omega)
      have hal : Tryd.prog.arrayLen 24 = 3 := by kernel_rfl
      go_wp2_with fail
      go_loopw [24] (fun v24 wr => ∃ j : Nat, j ≤ ll.length ∧ v24 = .int .i64 j ∧ wr = w0) (fun v24 _ => ll.length - (intOf v24).toNat)
      case atStart => exact ⟨0, by omega, rfl, rfl⟩
      case round =>
        obtain ⟨j, hj, rfl, rfl⟩ := hrel
        by_cases hjl : j < ll.length
        · have hdj : decide ((j : Int) < ll.length) = true := decide_eq_true (by omega)
          obtain ⟨ad, e, hx⟩ := Kd.at_string hCr (j : Int) (by omega) (by omega)
          cases e
          have hx' : wr.cell? (ad.add j) = some (.string (rdOf ByteArray.empty ll (j : Int))) := hx
          generalize rdOf ByteArray.empty ll (j : Int) = xs at hx'
          clear hx
          have p2 : (0 ≤ (j : Int)) = True := eq_true (by omega)
          have q2 : ((j : Int) < ll.length) = True := eq_true (by omega)
          by_cases hbig : (200 : Int) < xs.size
          · have hd2 : decide ((200 : Int) < xs.size) = true := decide_eq_true hbig
            have hd3 : decide (200 < xs.size) = true := decide_eq_true (by omega)
            go_wp2_with fail
            go_ret
            exact ⟨⟨_, rfl⟩, hb⟩
          · have hd2 : decide ((200 : Int) < xs.size) = false := decide_eq_false hbig
            have hd3 : decide (200 < xs.size) = false := decide_eq_false (by omega)
            go_wp2_with fail
            go_roundw
            case rel => exact ⟨j + 1, by omega, by go_num, trivial⟩
            case measure => simp [intOf]; omega
        · have hdj : decide ((j : Int) < ll.length) = false := decide_eq_false (by omega)
          go_wp2_with fail
          go_roundw
          case rel => exact ⟨i + 1, _, by omega, by go_num, rfl, HM.out, hb⟩
          case measure => simp [intOf]; omega
    · have hd : decide ((i : Int) < 3) = false := decide_eq_false (by omega)
      go_wp2_with fail
      all_goals go_ret
      all_goals exact ⟨⟨_, rfl⟩, hb⟩
end Go.Proofs.YtokcmaehojljdaaDoor

/- wire.Get at bytes that are no row of two texts: its walk. -/
namespace Go.Proofs.YtokcmaehojljdaaDoor
open Go.RowKit Go.Shelf Go.Proofs.YtokcmaehojljdaaDoorW.PrintWords Go.Proofs.YtokcmaehojljdaaDoorW.PrintLast Go.Proofs.YtokcmaehojljdaaDoorW.PrintMore

def ms0 : Ms := ⟨0, ⟨#[]⟩, sn0, 0, 0⟩
theorem ms0_ok (w : World) : MsOk w ms0 (.slice none 0 0) (.slice none 0 0) (.slice none 0 0) :=
  ⟨⟨texts_nil w, texts_nil w, texts_nil w, by decide, by decide, by decide, by decide, by decide, by decide, by decide⟩, by decide, by decide, by decide, by decide⟩
theorem texts_f (s : ByteArray) (hs : s.size ≤ 1000000000) : PGet.num_Texts.f (s.size + 14) s = some ((ofRow s).1, (((ofRow s).2 : Nat) : Int)) :=
  texts_pure (s.size + 1) (s.size + 14) s [] (by omega) (by omega) (by omega) (by simp; omega)
theorem texts_any (s : ByteArray) (hs : s.size ≤ 1000000000) (w : World) : Calls Tryd.prog 29 #[.string s] w fun e w' => (∃ A c, e = .returned (.tuple #[.slice A (ofRow s).1.length c, .int .i64 (((ofRow s).2 : Nat) : Int)]) ∧ (ofRow s).1.length ≤ c ∧ Kd.C Kd.string w' A (ofRow s).1.length (ofRow s).1) ∧ Below w.heap.size w w' := by
  refine (PGet.num_Texts.calls _ s _ _ w (texts_f s hs)).mono ?_
  rintro e w' ⟨v, rfl, hR, hb⟩
  obtain ⟨A, c, rfl, hc, hC⟩ := Kd.R_reads hR
  exact ⟨⟨A, c, rfl, hc, hC⟩, hb⟩
theorem size0 : (Tryd.prog.info? 31).map (·.size) = some (msL ms0 (.slice none 0 0) (.slice none 0 0) (.slice none 0 0)).toArray.size := by
  rw [List.size_toArray, msL_len (by decide)]; kernel_rfl
theorem one0 : (msL ms0 (.slice none 0 0) (.slice none 0 0) (.slice none 0 0)).toArray.all (·.oneCell') = true := by kernel_rfl
/-- What Get hands back: the message that lies in its own block, and the error. -/
theorem get_ret {W : World} {b : Nat} {m : Ms} {v0 v1 v2 : Value} (h : Row W b 31 (msL m v0 v1 v2).toArray) (hs : m.snap.sum.length = 32) (e : Int) (act : Act) (hd : act.defers = [])
    (h2 : act.tmps.getD 2 undef = (.pointer (some ⟨b, 0, none⟩))) (h3 : act.tmps.getD 3 undef = (.int .i64 e)) (Q : Ending → World → Prop) (hQ : Q (.returned (.tuple #[.agg (msL m v0 v1 v2).toArray, .int .i64 e])) W) :
    bodyPost Tryd.prog Tryd.f15 Q Exit.ret act W := by
  refine bodyPost_ret (v := .tuple #[.agg (msL m v0 v1 v2).toArray, .int .i64 e]) ?_ hd hQ
  rw [results_cell_tmp rfl, h2, h3]
  have hl := ms_whole h hs
  simp [asAddr, hl]
set_option maxHeartbeats 4000000 in
set_option maxRecDepth 100000 in
theorem get_not2 (s : ByteArray) (hs : s.size ≤ 1000000000) (hn : Not2 s) (w : World) :
    Calls Tryd.prog 15 #[.string s] w fun e w' => e = .returned (.tuple #[.agg (msL ms0 (.slice none 0 0) (.slice none 0 0) (.slice none 0 0)).toArray, .int .i64 3]) ∧ Below w.heap.size w w' := by
  have HT := Sec.mk (fun w => texts_any s hs w)
  have hM := Row.new w (msL ms0 (.slice none 0 0) (.slice none 0 0) (.slice none 0 0)).toArray 31
  have hb0 := (Below.refl w.heap.size w).alloc (Nat.le_refl _) (.cells (msL ms0 (.slice none 0 0) (.slice none 0 0) (.slice none 0 0)).toArray 31)
  go_enter Tryd.func15, Tryd.ntmps15
  go_upto_region 1 with (fail)
  refine wp_abs (fun W HW => ?_)
  replace hM : Row W w.heap.size 31 (msL ms0 (.slice none 0 0) (.slice none 0 0) (.slice none 0 0)).toArray := by rw [HW.out]; exact hM
  replace hb0 : Below w.heap.size w W := by rw [HW.out]; exact hb0
  clear HW
  go_wp2_with fail
  refine (HT.out W).mono ?_
  rintro e w1 ⟨⟨A, c, rfl, hc, hC⟩, hb1⟩
  have hM1 := hM.below hb1 hM.lt
  replace hb1 := hb0.trans (hb1.mono hb0.size)
  clear hM hb0
  have HC := Sec.mk hC
  clear hC
  have HB := Sec.mk hb1
  obtain ⟨n, hn1⟩ : ∃ n, n = (ofRow s).1.length := ⟨_, rfl⟩
  obtain ⟨e, he1⟩ : ∃ e, e = (ofRow s).2 := ⟨_, rfl⟩
  unfold Not2 at hn
  rw [← hn1, ← he1] at hn ⊢
  clear hn1 he1 hb1
  by_cases h0 : e = 0
  · subst h0
    have h2 : n ≠ 2 := by simpa using hn
    have hd : ((n : Int) != 2) = true := bne_iff_ne.2 (by omega)
    clear hn h2
    go_wp2_with (refine wpList_store_row rfl 31 (.tmp 2) (.tmp 25) rfl w.heap.size (msL ms0 (.slice none 0 0) (.slice none 0 0) (.slice none 0 0)).toArray rfl rfl 31 _ hM1 size0 rfl one0 ?_)
    exact get_ret hM1.row (by decide) 3 _ rfl rfl rfl _ ⟨rfl, below_row HB.out (Nat.le_refl _) _⟩
  · have hd : ((e : Int) != 0) = true := bne_iff_ne.2 (by omega)
    clear hn h0
    go_wp2_with (refine wpList_store_row rfl 31 (.tmp 2) (.tmp 25) rfl w.heap.size (msL ms0 (.slice none 0 0) (.slice none 0 0) (.slice none 0 0)).toArray rfl rfl 31 _ hM1 size0 rfl one0 ?_)
    exact get_ret hM1.row (by decide) 3 _ rfl rfl rfl _ ⟨rfl, below_row HB.out (Nat.le_refl _) _⟩
end Go.Proofs.YtokcmaehojljdaaDoor

/- SameSnap and Same: their walks. -/
namespace Go.Proofs.YtokcmaehojljdaaDoor
open Go.RowKit Go.Shelf Go.Proofs.YtokcmaehojljdaaDoorW.PrintWords Go.Proofs.YtokcmaehojljdaaDoorW.PrintLast Go.Proofs.YtokcmaehojljdaaDoorW.PrintMore

theorem sum_neq (w : World) (xs ys : List UInt8) (hx : xs.length = 32) (hy : ys.length = 32) : (binOp .neq 26 (.agg (Lib.byteCells xs).toArray) (.agg (Lib.byteCells ys).toArray)).run Tryd.prog w = .ok (.bool (xs != ys)) w := by
  have e1 : Lib.byteCells xs = xs.map Extern.Stop.cell := rfl
  have e2 : Lib.byteCells ys = ys.map Extern.Stop.cell := rfl
  rw [e1, e2, run_neq_struct, run_equalIn_bytes (P := Tryd.prog) w 9998 26 5 32 Tryd.underlying26 Tryd.underlying5 (fun w => by kernel_rfl) xs ys hx hy]
  rfl
theorem sn_list {w : World} {b : Nat} {s : Sn} {v : Nat → Value} (h : Row w b 28 (snL s (v 0) (v 1) (v 2)).toArray) (i : Nat) (hi : i < 3) : w.cell? ⟨b, 6 + i, none⟩ = some (v i) := by
  rw [h.at_ (6 + i)]
  have hc : i = 0 ∨ i = 1 ∨ i = 2 := by omega
  rcases hc with rfl | rfl | rfl <;> rfl
/-- Are all but the lists the same? -/
def flatSn (a b : Sn) : Prop := a.mach.toList = b.mach.toList ∧ a.n = b.n ∧ a.at_ = b.at_ ∧ a.clock = b.clock ∧ a.pages = b.pages ∧ a.blocks = b.blocks ∧ a.sum = b.sum
theorem sn_eq (a b : Sn) : a = b ↔ flatSn a b ∧ ∀ j, j < 3 → lst a j = lst b j := by
  constructor
  · rintro rfl
    exact ⟨⟨rfl, rfl, rfl, rfl, rfl, rfl, rfl⟩, fun _ _ => rfl⟩
  · rintro ⟨⟨h1, h2, h3, h4, h5, h6, h7⟩, hl⟩
    have g0 : a.l0 = b.l0 := hl 0 (by decide)
    have g1 : a.l1 = b.l1 := hl 1 (by decide)
    have g2 : a.l2 = b.l2 := hl 2 (by decide)
    have h1' := (toList_inj _ _).1 h1
    cases a; cases b
    simp only [Sn.mk.injEq] at *
    exact ⟨h1', h2, h3, h4, h5, h6, g0, g1, g2, h7⟩
set_option maxHeartbeats 8000000 in
set_option maxRecDepth 100000 in
theorem snap_any (a b : Sn) (v0 v1 v2 u0 u1 u2 : Value) (w : World) (ha : SnOk w a v0 v1 v2) (hb : SnOk w b u0 u1 u2) :
    Calls Tryd.prog 20 #[.agg (snL a v0 v1 v2).toArray, .agg (snL b u0 u1 u2).toArray] w fun e w' => (∃ r : Bool, e = .returned (.bool r) ∧ (r = true ↔ a = b)) ∧ Below w.heap.size w w' := by
  have hsa := ha.hs
  have hsb := hb.hs
  obtain ⟨A, c, rfl, rfl, rfl, hla⟩ := lists_at ha
  obtain ⟨B, d, rfl, rfl, rfl, hlb⟩ := lists_at hb
  have HLA := Sec.mk hla
  have HLB := Sec.mk hlb
  clear ha hb hla hlb
  have hra : Row ((w.alloc (.cells (snL a (.slice (A 0) (lst a 0).length (c 0)) (.slice (A 1) (lst a 1).length (c 1)) (.slice (A 2) (lst a 2).length (c 2))).toArray 28)).alloc (.cells (snL b (.slice (B 0) (lst b 0).length (d 0)) (.slice (B 1) (lst b 1).length (d 1)) (.slice (B 2) (lst b 2).length (d 2))).toArray 28)) w.heap.size 28 (snL a (.slice (A 0) (lst a 0).length (c 0)) (.slice (A 1) (lst a 1).length (c 1)) (.slice (A 2) (lst a 2).length (c 2))).toArray := (Row.new w _ 28).alloc _
  have hrb := Row.new1 w (.cells (snL a (.slice (A 0) (lst a 0).length (c 0)) (.slice (A 1) (lst a 1).length (c 1)) (.slice (A 2) (lst a 2).length (c 2))).toArray 28) (snL b (.slice (B 0) (lst b 0).length (d 0)) (.slice (B 1) (lst b 1).length (d 1)) (.slice (B 2) (lst b 2).length (d 2))).toArray 28
  have hb0 := ((Below.refl w.heap.size w).alloc (Nat.le_refl _) (.cells (snL a (.slice (A 0) (lst a 0).length (c 0)) (.slice (A 1) (lst a 1).length (c 1)) (.slice (A 2) (lst a 2).length (c 2))).toArray 28)).alloc (by rw [size_alloc]; omega) (.cells (snL b (.slice (B 0) (lst b 0).length (d 0)) (.slice (B 1) (lst b 1).length (d 1)) (.slice (B 2) (lst b 2).length (d 2))).toArray 28)
  go_enter Tryd.func20, Tryd.ntmps20
  go_upto_region 1 with (fail)
  refine wp_abs (fun W HW => ?_)
  rw [← HW.out] at hra hrb hb0
  clear HW
  go_cut [53] (fun v53 wc => (∃ r : Bool, v53 = .bool (!r) ∧ Sec (r = true ↔ flatSn a b)) ∧ Row wc w.heap.size 28 (snL a (.slice (A 0) (lst a 0).length (c 0)) (.slice (A 1) (lst a 1).length (c 1)) (.slice (A 2) (lst a 2).length (c 2))).toArray ∧ Row wc (w.heap.size + 1) 28 (snL b (.slice (B 0) (lst b 0).length (d 0)) (.slice (B 1) (lst b 1).length (d 1)) (.slice (B 2) (lst b 2).length (d 2))).toArray ∧ Below w.heap.size w wc)
  case first =>
    obtain ⟨k0, k1, k2, k3, k4, k5, -, -, -⟩ := sn_cells hra
    obtain ⟨l0, l1, l2, l3, l4, l5, -, -, -⟩ := sn_cells hrb
    by_cases e0 : a.mach.toList = b.mach.toList
    · by_cases e1 : a.n = b.n
      · by_cases e2 : a.at_ = b.at_
        · by_cases e3 : a.clock = b.clock
          · by_cases e4 : a.pages = b.pages
            · by_cases e5 : a.blocks = b.blocks
              · have hxa := sn_sum hra hsa
                have hxb := sn_sum hrb hsb
                have hne := Sec.mk (fun W => sum_neq W a.sum b.sum hsa hsb)
                have hiff : (a.sum == b.sum) = true ↔ flatSn a b := by
                  rw [beq_iff_eq]
                  exact ⟨fun e6 => ⟨e0, e1, e2, e3, e4, e5, e6⟩, fun h => h.2.2.2.2.2.2⟩
                have HI := Sec.mk hiff
                clear hiff
                have hnb : (a.sum != b.sum) = !(a.sum == b.sum) := rfl
                rw [hnb] at hne
                clear hnb
                generalize (a.sum == b.sum) = r at HI hne
                go_wp2_with (first
                  | refine wpList_load_list rfl 26 (.tmp 48) rfl w.heap.size 9 rfl _ hxa ?_
                  | refine wpList_load_list rfl 26 (.tmp 50) rfl (w.heap.size + 1) 9 rfl _ hxb ?_
                  | refine wpList_value (v := .bool (!r)) rfl (run_exec_neq W rfl rfl rfl (by kernel_rfl) (hne.out W)) ?_)
                go_meet
                exact ⟨⟨r, rfl, HI⟩, hra, hrb, hb0⟩
              · go_wp2_with fail
                go_meet
                exact ⟨⟨false, by simp, ⟨⟨fun h => absurd h (by decide), fun h => absurd h.2.2.2.2.2.1 e5⟩⟩⟩, hra, hrb, hb0⟩
            · go_wp2_with fail
              go_meet
              exact ⟨⟨false, by simp, ⟨⟨fun h => absurd h (by decide), fun h => absurd h.2.2.2.2.1 e4⟩⟩⟩, hra, hrb, hb0⟩
          · go_wp2_with fail
            go_meet
            exact ⟨⟨false, by simp, ⟨⟨fun h => absurd h (by decide), fun h => absurd h.2.2.2.1 e3⟩⟩⟩, hra, hrb, hb0⟩
        · go_wp2_with fail
          go_meet
          exact ⟨⟨false, by simp, ⟨⟨fun h => absurd h (by decide), fun h => absurd h.2.2.1 e2⟩⟩⟩, hra, hrb, hb0⟩
      · go_wp2_with fail
        go_meet
        exact ⟨⟨false, by simp, ⟨⟨fun h => absurd h (by decide), fun h => absurd h.2.1 e1⟩⟩⟩, hra, hrb, hb0⟩
    · go_wp2_with fail
      go_meet
      exact ⟨⟨false, by simp, ⟨⟨fun h => absurd h (by decide), fun h => absurd h.1 e0⟩⟩⟩, hra, hrb, hb0⟩
  case rest =>
    clear hra hrb hb0 hsa hsb
    obtain ⟨⟨r, rfl, HI⟩, hra, hrb, hb⟩ := hcut
    cases r with
    | false =>
      go_wp2_with fail
      go_ret
      exact ⟨⟨false, rfl, fun h => absurd h (by decide), fun h => absurd (HI.out.2 ((sn_eq a b).1 h).1) (by decide)⟩, hb⟩
    | true =>
      have hfl := Sec.mk (HI.out.1 rfl)
      clear HI
      go_wp2_with fail
      go_loopw [5] (fun v5 wr => ∃ i : Nat, i ≤ 3 ∧ v5 = .int .i64 i ∧ Row wr w.heap.size 28 (snL a (.slice (A 0) (lst a 0).length (c 0)) (.slice (A 1) (lst a 1).length (c 1)) (.slice (A 2) (lst a 2).length (c 2))).toArray ∧ Row wr (w.heap.size + 1) 28 (snL b (.slice (B 0) (lst b 0).length (d 0)) (.slice (B 1) (lst b 1).length (d 1)) (.slice (B 2) (lst b 2).length (d 2))).toArray ∧ Below w.heap.size w wr ∧ Sec (∀ j, j < i → lst a j = lst b j)) (fun v5 _ => 3 - (intOf v5).toNat)
      case atStart => exact ⟨0, by omega, rfl, hra, hrb, hb, ⟨fun j hj => absurd hj (Nat.not_lt_zero _)⟩⟩
      case round =>
        clear hra hrb hb
        obtain ⟨i, hi, rfl, hra, hrb, hb, hgood⟩ := hrel
        by_cases hlt : i < 3
        · have hd : decide ((i : Int) < 3) = true := decide_eq_true (by omega)
          have ka := sn_list (v := fun i => .slice (A i) (lst a i).length (c i)) hra i hlt
          have kb := sn_list (v := fun i => .slice (B i) (lst b i).length (d i)) hrb i hlt
          obtain ⟨-, hCa, hna, -⟩ := HLA.out i hlt
          obtain ⟨-, hCb, hnb, -⟩ := HLB.out i hlt
          replace hCa := Kd.C_below hCa hb
          replace hCb := Kd.C_below hCb hb
          obtain ⟨w0, hw0⟩ : ∃ w0, w0 = wr := ⟨_, rfl⟩
          subst hw0
          have HRA := Sec.mk hra
          have HRB := Sec.mk hrb
          clear hra hrb
          generalize hla : lst a i = la at ka hCa hna
          generalize hlb : lst b i = lb at kb hCb hnb
          have HL1 := Sec.mk hla
          have HL2 := Sec.mk hlb
          clear hla hlb
          generalize A i = Ai at ka hCa
          generalize B i = Bi at kb hCb
          have p1 : (0 ≤ (i : Int)) = True := eq_true (by omega)
          have q1 : ((i : Int) < 3) = True := eq_true (by omega)
          have hal : Tryd.prog.arrayLen 24 = 3 := by kernel_rfl
          go_wp2_with fail
          go_quiet (fail)
          replace ka : (w0.drewN nq).cell? ⟨w.heap.size, 6 + i, none⟩ = some (.slice Ai la.length (c i)) := ka
          replace kb : (w0.drewN nq).cell? ⟨w.heap.size + 1, 6 + i, none⟩ = some (.slice Bi lb.length (d i)) := kb
          replace hCa := Kd.C_drewN hCa nq
          replace hCb := Kd.C_drewN hCb nq
          replace hb := below_drewN' hb nq
          replace HRA := Sec.mk (HRA.out.drewN nq)
          replace HRB := Sec.mk (HRB.out.drewN nq)
          generalize w0.drewN nq = w2 at *
          have hno : la ≠ lb → ¬ (a = b) := fun h e => h (by rw [← HL1.out, ← HL2.out, e])
          have HNO := Sec.mk hno
          clear hno
          by_cases hlen : la.length = lb.length
          · have hl1 : ((la.length : Int) != lb.length) = false := by rw [hlen]; exact bne_self_eq_false _
            have hl2 : ((la.length : Int) == lb.length) = true := by rw [hlen]; exact beq_self_eq_true _
            go_wp2_with fail
            go_loopw [74] (fun v74 wr => ∃ k : Nat, k ≤ la.length ∧ v74 = .int .i64 k ∧ Below w2.heap.size w2 wr ∧ Sec (la.take k = lb.take k)) (fun v74 _ => la.length - (intOf v74).toNat)
            case atStart => exact ⟨0, by omega, rfl, Below.refl _ _, ⟨by simp⟩⟩
            case round =>
              clear hl1 hl2
              obtain ⟨k, hk, rfl, hbk, htk⟩ := hrel
              have hab := hb.trans (hbk.mono hb.size)
              by_cases hkl : k < la.length
              · have hdk : decide ((k : Int) < la.length) = true := decide_eq_true (by omega)
                have ka2 : wr.cell? ⟨w.heap.size, 6 + i, none⟩ = some (.slice Ai la.length (c i)) := (hbk.cell (cell_lt ka)).trans ka
                have kb2 : wr.cell? ⟨w.heap.size + 1, 6 + i, none⟩ = some (.slice Bi lb.length (d i)) := (hbk.cell (cell_lt kb)).trans kb
                obtain ⟨ad, e, hx⟩ := Kd.at_string (Kd.C_below hCa hbk) (k : Int) (by omega) (by omega)
                cases e
                obtain ⟨bd, e, hy⟩ := Kd.at_string (Kd.C_below hCb hbk) (k : Int) (by omega) (by omega)
                cases e
                obtain ⟨x, hxs⟩ : ∃ x, la[k]? = some x := ⟨_, List.getElem?_eq_getElem hkl⟩
                obtain ⟨y, hys⟩ : ∃ y, lb[k]? = some y := ⟨_, List.getElem?_eq_getElem (by omega)⟩
                have hx' : wr.cell? (ad.add k) = some (.string x) := by
                  have e2 : rdOf ByteArray.empty la (k : Int) = x := by simp [rdOf, List.getD_eq_getElem?_getD, hxs]
                  rw [e2] at hx; exact hx
                have hy' : wr.cell? (bd.add k) = some (.string y) := by
                  have e2 : rdOf ByteArray.empty lb (k : Int) = y := by simp [rdOf, List.getD_eq_getElem?_getD, hys]
                  rw [e2] at hy; exact hy
                clear hx hy
                have ht1 : la.take (k + 1) = la.take k ++ [x] := by rw [List.take_add_one, hxs]; rfl
                have ht2 : lb.take (k + 1) = lb.take k ++ [y] := by rw [List.take_add_one, hys]; rfl
                have HT := Sec.mk (And.intro ht1 ht2)
                have HXY := Sec.mk (And.intro hxs hys)
                clear ht1 ht2 hxs hys
                have p2 : (0 ≤ (k : Int)) = True := eq_true (by omega)
                have q2 : ((k : Int) < la.length) = True := eq_true (by omega)
                have q3 : ((k : Int) < lb.length) = True := eq_true (by omega)
                by_cases hxy : x.toList = y.toList
                · have hn1 : (x.toList != y.toList) = false := by rw [hxy]; exact bne_self_eq_false _
                  have hn2 : (x.toList == y.toList) = true := by rw [hxy]; exact beq_self_eq_true _
                  have HE := Sec.mk ((toList_inj _ _).1 hxy)
                  clear hxy
                  go_wp2_with fail
                  go_quiet (fail)
                  go_wp2_with fail
                  refine ⟨⟨k + 1, by omega, by go_num, below_drewN' hbk nq, ⟨by rw [HT.out.1, HT.out.2, htk.out, HE.out]⟩⟩, by simp [intOf]; omega⟩
                · have hn1 : (x.toList != y.toList) = true := bne_iff_ne.2 hxy
                  have hn2 : (x.toList == y.toList) = false := beq_eq_false_iff_ne.2 hxy
                  have hdiff : la ≠ lb := fun e => hxy (by
                    have h := HXY.out.1
                    rw [e, HXY.out.2] at h
                    rw [Option.some.inj h])
                  have HD := Sec.mk (HNO.out hdiff)
                  clear hxy hdiff
                  go_wp2_with fail
                  go_quiet (fail)
                  go_wp2_with fail
                  go_ret
                  exact ⟨⟨false, rfl, fun h => absurd h (by decide), fun h => absurd h HD.out⟩, below_drewN' hab _⟩
              · have hdk : decide ((k : Int) < la.length) = false := decide_eq_false (by omega)
                have heq : la = lb := by
                  have h := htk.out
                  rw [List.take_of_length_le (by omega), List.take_of_length_le (by omega)] at h
                  exact h
                have HEQ := Sec.mk heq
                clear heq
                go_wp2_with fail
                have hRa2 := HRA.out.below hbk HRA.out.lt
                have hRb2 := HRB.out.below hbk HRB.out.lt
                refine ⟨⟨i + 1, by omega, by go_num, hRa2, hRb2, hab, ⟨fun j hj => ?_⟩⟩, by simp [intOf]; omega⟩
                by_cases hji : j = i
                · rw [hji, HL1.out, HL2.out]; exact HEQ.out
                · exact hgood.out j (by omega)
          · have hl1 : ((la.length : Int) != lb.length) = true := bne_iff_ne.2 (by omega)
            have hl2 : ((la.length : Int) == lb.length) = false := beq_eq_false_iff_ne.2 (by omega)
            have HD := Sec.mk (HNO.out (fun e => hlen (by rw [e])))
            go_wp2_with fail
            go_ret
            exact ⟨⟨false, rfl, fun h => absurd h (by decide), fun h => absurd h HD.out⟩, hb⟩
        · have hd : decide ((i : Int) < 3) = false := decide_eq_false (by omega)
          obtain rfl : i = 3 := by omega
          go_wp2_with fail
          go_ret
          exact ⟨⟨true, rfl, fun _ => (sn_eq a b).2 ⟨hfl.out, hgood.out⟩, fun _ => rfl⟩, hb⟩
theorem ms_eq (m n : Ms) : m = n ↔ m.kind = n.kind ∧ m.data.toList = n.data.toList ∧ m.n = n.n ∧ m.why = n.why ∧ m.snap = n.snap := by
  constructor
  · rintro rfl; exact ⟨rfl, rfl, rfl, rfl, rfl⟩
  · rintro ⟨h1, h2, h3, h4, h5⟩
    have h2' := (toList_inj _ _).1 h2
    cases m; cases n
    simp only [Ms.mk.injEq] at *
    exact ⟨h1, h2', h5, h3, h4⟩
set_option maxHeartbeats 4000000 in
set_option maxRecDepth 100000 in
theorem same_any (m n : Ms) (v0 v1 v2 u0 u1 u2 : Value) (w : World) (hm : MsOk w m v0 v1 v2) (hn : MsOk w n u0 u1 u2) :
    Calls Tryd.prog 11 #[.agg (msL m v0 v1 v2).toArray, .agg (msL n u0 u1 u2).toArray] w fun e w' => (∃ r : Bool, e = .returned (.bool r) ∧ (r = true ↔ m = n)) ∧ Below w.heap.size w w' := by
  have hsm := hm.snap.hs
  have hsn := hn.snap.hs
  have hra : Row ((w.alloc (.cells (msL m v0 v1 v2).toArray 31)).alloc (.cells (msL n u0 u1 u2).toArray 31)) w.heap.size 31 (msL m v0 v1 v2).toArray := (Row.new w _ 31).alloc _
  have hrb := Row.new1 w (.cells (msL m v0 v1 v2).toArray 31) (msL n u0 u1 u2).toArray 31
  have hb0 := ((Below.refl w.heap.size w).alloc (Nat.le_refl _) (.cells (msL m v0 v1 v2).toArray 31)).alloc (by rw [size_alloc]; omega) (.cells (msL n u0 u1 u2).toArray 31)
  have HX := Sec.mk (And.intro hm hn)
  clear hm hn
  have hq := ms_eq m n
  go_enter Tryd.func11, Tryd.ntmps11
  go_upto_region 1 with (fail)
  refine wp_abs (fun W HW => ?_)
  rw [← HW.out] at hra hrb hb0
  clear HW
  obtain ⟨k0, k1, k2, k3⟩ := ms_cells hra hsm
  obtain ⟨l0, l1, l2, l3⟩ := ms_cells hrb hsn
  have HQ := Sec.mk hq
  clear hq
  by_cases e0 : m.kind = n.kind
  · by_cases e1 : m.data.toList = n.data.toList
    · by_cases e2 : m.n = n.n
      · by_cases e3 : m.why = n.why
        · have hx := ms_snap hra hsm
          have hy := ms_snap hrb hsn
          have HE := Sec.mk (And.intro e0 (And.intro e1 (And.intro e2 e3)))
          go_wp2_with (first
            | refine wpList_load_list rfl 28 (.tmp 32) rfl w.heap.size 2 rfl _ hx ?_
            | refine wpList_load_list rfl 28 (.tmp 34) rfl (w.heap.size + 1) 2 rfl _ hy ?_)
          refine (snap_any m.snap n.snap v0 v1 v2 u0 u1 u2 _ (HX.out.1.snap.below hb0) (HX.out.2.snap.below hb0)).mono ?_
          rintro e w2 ⟨⟨r, rfl, hr⟩, hb2⟩
          have HR := Sec.mk hr
          clear hr
          have hb3 := hb0.trans (hb2.mono hb0.size)
          go_wp2_with fail
          go_ret
          refine ⟨⟨r, rfl, ?_⟩, hb3⟩
          rw [HR.out, HQ.out]
          exact ⟨fun h => ⟨HE.out.1, HE.out.2.1, HE.out.2.2.1, HE.out.2.2.2, h⟩, fun h => h.2.2.2.2⟩
        · have HN := Sec.mk (fun h : m = n => e3 (HQ.out.1 h).2.2.2.1)
          go_wp2_with fail
          go_ret
          exact ⟨⟨false, by simp, fun h => absurd h (by decide), fun h => absurd h HN.out⟩, hb0⟩
      · have HN := Sec.mk (fun h : m = n => e2 (HQ.out.1 h).2.2.1)
        go_wp2_with fail
        go_ret
        exact ⟨⟨false, by simp, fun h => absurd h (by decide), fun h => absurd h HN.out⟩, hb0⟩
    · have HN := Sec.mk (fun h : m = n => e1 (HQ.out.1 h).2.1)
      go_wp2_with fail
      go_ret
      exact ⟨⟨false, by simp, fun h => absurd h (by decide), fun h => absurd h HN.out⟩, hb0⟩
  · have HN := Sec.mk (fun h : m = n => e0 (HQ.out.1 h).1)
    go_wp2_with fail
    go_ret
    exact ⟨⟨false, by simp, fun h => absurd h (by decide), fun h => absurd h HN.out⟩, hb0⟩
end Go.Proofs.YtokcmaehojljdaaDoor

/- Two messages that may be have the same bytes just if they are the same: the plain law. -/
namespace Go.Proofs.YtokcmaehojljdaaDoor
open Go.RowKit Go.Proofs.YtokcmaehojljdaaDoorW.PrintWords Go.Proofs.YtokcmaehojljdaaDoorW.PrintLast Go.Proofs.YtokcmaehojljdaaDoorW.PrintMore

/-- The numbers of a snapshot, of a message: their ranges. -/
structure SnRange (s : Sn) : Prop where
  hs : s.sum.length = 32
  hn : -9223372036854775808 ≤ s.n ∧ s.n ≤ 9223372036854775807
  hat : -9223372036854775808 ≤ s.at_ ∧ s.at_ ≤ 9223372036854775807
  hc : 0 ≤ s.clock ∧ s.clock ≤ 18446744073709551615
  hp : -9223372036854775808 ≤ s.pages ∧ s.pages ≤ 9223372036854775807
  hb : -9223372036854775808 ≤ s.blocks ∧ s.blocks ≤ 9223372036854775807
structure MsRange (m : Ms) : Prop where
  snap : SnRange m.snap
  hk : -9223372036854775808 ≤ m.kind ∧ m.kind ≤ 9223372036854775807
  hn : -9223372036854775808 ≤ m.n ∧ m.n ≤ 9223372036854775807
  hw : -9223372036854775808 ≤ m.why ∧ m.why ≤ 9223372036854775807
theorem MsOk.range {w : World} {m : Ms} {v0 v1 v2 : Value} (h : MsOk w m v0 v1 v2) : MsRange m :=
  ⟨⟨h.snap.hs, h.snap.hn, h.snap.hat, h.snap.hc, h.snap.hp, h.snap.hb⟩, h.hk, h.hn, h.hw⟩
theorem rowSn_eq (s : Sn) : rowSn s = [hibm, s.mach, dec s.n, dec s.at_, ⟨(putU s.clock.toNat 8).toArray⟩, dec s.pages, dec s.blocks, digs s.l0, digs s.l1, digs s.l2, ⟨s.sum.toArray⟩] := rfl
theorem good_all (l : List ByteArray) (h : anyBad l = false) : ∀ x ∈ l, ofOk x = true := by
  intro x hx
  unfold anyBad at h
  rw [List.any_eq_false] at h
  simpa using h x hx
theorem digs_one (l m : List ByteArray) (hl : anyBad l = false) (hm : anyBad m = false) (h : digs l = digs m) : l = m := digs_inj l m (good_all l hl) (good_all m hm) (bytes_inj h)
theorem bytesSn_inj (s t : Sn) (hs : SnRange s) (ht : SnRange t) (cs : checkSn s = 0) (ct : checkSn t = 0) (h : bytesSn s = bytesSn t) : s = t := by
  obtain ⟨_, _, _, bs⟩ := check_zero s cs
  obtain ⟨_, _, _, bt⟩ := check_zero t ct
  rw [badS, Bool.or_eq_false_iff, Bool.or_eq_false_iff] at bs bt
  rw [bytesSn, bytesSn, if_pos cs, if_pos ct] at h
  have hr := rowU_inj _ _ (bytes_inj h)
  rw [rowSn_eq, rowSn_eq] at hr
  simp only [List.cons.injEq, and_true, true_and] at hr
  obtain ⟨e0, e1, e2, e3, e4, e5, e6, e7, e8, e9⟩ := hr
  have f1 := dec_inj _ _ hs.hn ht.hn e1
  have f2 := dec_inj _ _ hs.hat ht.hat e2
  have f4 := dec_inj _ _ hs.hp ht.hp e4
  have f5 := dec_inj _ _ hs.hb ht.hb e5
  have f3 : s.clock = t.clock := by
    have a := hs.hc
    have b := ht.hc
    have := putU_inj s.clock.toNat t.clock.toNat (by omega) (by omega) (bytes_inj e3)
    omega
  have f6 := digs_one _ _ bs.1.1 bt.1.1 e6
  have f7 := digs_one _ _ bs.1.2 bt.1.2 e7
  have f8 := digs_one _ _ bs.2 bt.2 e8
  have f9 := bytes_inj e9
  cases s; cases t
  simp only [Sn.mk.injEq] at *
  exact ⟨e0, f1, f2, f3, f4, f5, f6, f7, f8, f9⟩
theorem empty_sn0 (s : Sn) (h : emptyB s = true) : s = sn0 := by
  unfold emptyB at h
  simp only [Bool.and_eq_true, beq_iff_eq] at h
  obtain ⟨⟨⟨⟨⟨⟨⟨h0, h1⟩, h2⟩, h3⟩, h4⟩, h5⟩, h6⟩, h7⟩ := h
  have l0 : s.l0 = [] := List.length_eq_zero_iff.1 (by omega)
  have l1 : s.l1 = [] := List.length_eq_zero_iff.1 (by omega)
  have l2 : s.l2 = [] := List.length_eq_zero_iff.1 (by omega)
  have hm : s.mach = ⟨#[]⟩ := (toList_inj _ _).1 (h1.trans nil_list.symm)
  cases s
  unfold sn0
  simp only [Sn.mk.injEq] at *
  exact ⟨hm, h2, h3, h4, h5, h6, l0, l1, l2, h7⟩
theorem isEmpty_nil (s : ByteArray) (h : s.toList.isEmpty = true) : s = ⟨#[]⟩ := (toList_inj _ _).1 ((List.isEmpty_iff.1 h).trans nil_list.symm)
theorem good_parts (m : Ms) (h : goodHas m = true) : (m.kind ≠ 1 → m.kind ≠ 2 → m.data = ⟨#[]⟩) ∧ (m.kind ≠ 3 → m.snap = sn0) ∧ (m.kind ≠ 4 → m.n = 0) ∧ (m.kind ≠ 5 → m.why = 0) := by
  unfold goodHas at h
  rw [Bool.and_eq_true, Bool.and_eq_true, Bool.and_eq_true] at h
  obtain ⟨⟨⟨h1, h2⟩, h3⟩, h4⟩ := h
  refine ⟨fun k1 k2 => ?_, fun k => ?_, fun k => ?_, fun k => ?_⟩
  · have e : may1 m.kind = false := by simp [may1, k1, k2]
    rw [e, Bool.and_false] at h1
    exact isEmpty_nil _ (by simpa using h1)
  · have e : (m.kind == 3) = false := beq_eq_false_iff_ne.2 k
    rw [e, Bool.and_false] at h2
    exact empty_sn0 _ (by simpa using h2)
  · have e : (m.kind == 4) = false := beq_eq_false_iff_ne.2 k
    rw [e, Bool.and_false] at h3
    simpa using h3
  · have e : (m.kind == 5) = false := beq_eq_false_iff_ne.2 k
    rw [e, Bool.and_false] at h4
    simpa using h4
theorem putMs_inj (m n : Ms) (hm : MsRange m) (hn : MsRange n) (cm : checkMs m = 0) (cn : checkMs n = 0) (h : putMs m = putMs n) : m = n := by
  rw [putMs, putMs, if_pos cm, if_pos cn] at h
  have hr := rowU_inj _ _ (bytes_inj h)
  simp only [List.cons.injEq, and_true] at hr
  obtain ⟨e0, e1⟩ := hr
  have hk := dec_inj _ _ hm.hk hn.hk e0
  obtain ⟨a1, a2, _, _, a5⟩ := checkMs_zero m cm
  obtain ⟨b1, b2, _, _, b5⟩ := checkMs_zero n cn
  obtain ⟨c1, c2, c3, c4⟩ := good_parts m a2
  obtain ⟨d1, d2, d3, d4⟩ := good_parts n b2
  rw [← hk] at d1 d2 d3 d4 b5
  unfold loadMs at e1
  rw [← hk] at e1
  rw [ms_eq]
  by_cases k3 : m.kind = 3
  · rw [if_pos k3, if_pos k3] at e1
    have hs := bytesSn_inj _ _ hm.snap hn.snap (a5 k3) (b5 k3) e1
    exact ⟨hk, by rw [c1 (by omega) (by omega), d1 (by omega) (by omega)], by rw [c3 (by omega), d3 (by omega)], by rw [c4 (by omega), d4 (by omega)], hs⟩
  rw [if_neg k3, if_neg k3] at e1
  have hs : m.snap = n.snap := by rw [c2 k3, d2 k3]
  by_cases k4 : m.kind = 4
  · rw [if_pos k4, if_pos k4] at e1
    exact ⟨hk, by rw [c1 (by omega) (by omega), d1 (by omega) (by omega)], dec_inj _ _ hm.hn hn.hn e1, by rw [c4 (by omega), d4 (by omega)], hs⟩
  rw [if_neg k4, if_neg k4] at e1
  by_cases k5 : m.kind = 5
  · rw [if_pos k5, if_pos k5] at e1
    exact ⟨hk, by rw [c1 (by omega) (by omega), d1 (by omega) (by omega)], by rw [c3 k4, d3 k4], dec_inj _ _ hm.hw hn.hw e1, hs⟩
  rw [if_neg k5, if_neg k5] at e1
  exact ⟨hk, by rw [e1], by rw [c3 k4, d3 k4], by rw [c4 k5, d4 k5], hs⟩
end Go.Proofs.YtokcmaehojljdaaDoor

/- wire.Get at a row of two texts: its walk. -/
namespace Go.Proofs.YtokcmaehojljdaaDoor
open Go.RowKit Go.Shelf Go.Proofs.YtokcmaehojljdaaDoorW.PrintWords Go.Proofs.YtokcmaehojljdaaDoorW.PrintLast Go.Proofs.YtokcmaehojljdaaDoorW.PrintMore

/-- A store of some cells into a row. -/
theorem run_store_part {P : Program} (w : World) (g o : Nat) (t ty : TypeId) (old V : List Value) (hg : Row w g t old.toArray) (hi : (P.info? ty).map (·.size) = some V.length) (hl : o + V.length ≤ old.length) (h1 : ∀ v ∈ V, v.oneCell' = true) :
    (storeVar ty ⟨g, o, none⟩ (.agg V.toArray)).run P w = .ok () (w.setRow g (old.take o ++ V ++ old.drop (o + V.length)).toArray) := by
  have := run_storeCells_at (P := P) g o t V 0 old.toArray w hg (by simpa using hl) h1
  cases hq : P.info? ty with
  | none => simp [hq] at hi
  | some i =>
    have hs : V.length = i.size := by simp [hq] at hi; omega
    simp only [Nat.add_zero] at this
    simp [storeVar, sizeOf, typeInfo, hq, Value.cells, hs, this]
theorem wpList_store_part {P : Program} {ops : Array Oper} {rest : List Oper} {o : Oper} {a : Act} {w : World} {Q : Exit → Act → World → Prop} (hgd : o.guard = none) (ty : TypeId) (x y : Operand) (ho : o.op = .store ty x y)
    (g off : Nat) (V : List Value) (hx : a.eval x = .pointer (some ⟨g, off, none⟩)) (hy : a.eval y = .agg V.toArray) (t : TypeId) (old : List Value) (hg : Row w g t old.toArray)
    (hi : (P.info? ty).map (·.size) = some V.length) (hl : off + V.length ≤ old.length) (h1 : ∀ v ∈ V, v.oneCell' = true)
    (h : wpList P ops Q rest (a.put o.dst undef) (w.setRow g (old.take off ++ V ++ old.drop (off + V.length)).toArray)) : wpList P ops Q (o :: rest) a w :=
  wpList_plain hgd fun K hK => by
    unfold Oper.wp execOp
    simp only [ho, hx, hy, Instr.storeAt, Instr.sureAddr, Sem.run_bind, Sem.run_pure, Result.andThen_ok, run_store_part (P := P) w g off t ty old V hg hi hl h1]
    exact hK _ _ h
/-- The message of a row of two texts. -/
def getM (k : Int) (d : ByteArray) (S : Sn) (n : Int) : Ms :=
  if k = 3 then ⟨k, ⟨#[]⟩, S, 0, 0⟩ else if k = 1 ∨ k = 2 then ⟨k, d, sn0, 0, 0⟩ else if k = 4 then ⟨k, ⟨#[]⟩, sn0, n, 0⟩ else if k = 5 then ⟨k, ⟨#[]⟩, sn0, 0, n⟩ else ⟨k, ⟨#[]⟩, sn0, 0, 0⟩
theorem int_range (s : ByteArray) : -9223372036854775808 ≤ (int s).1 ∧ (int s).1 ≤ 9223372036854775807 := by
  have hi : int s = match Lib.parseIntB 64 s.data.toList with
    | .ok v => if Lib.itoa v = s.data.toList then (v, true) else (0, false)
    | _ => (0, false) := rfl
  rcases num_end (Lib.parseIntB 64 s.data.toList) with ⟨v, hp⟩ | hp | hp
  · rw [hp] at hi
    simp only [] at hi
    have hr := parse_range s v hp
    rw [hi]
    split
    · exact hr
    · decide
  · rw [hp] at hi
    rw [hi]
    exact ⟨(by decide : (-9223372036854775808 : Int) ≤ 0), (by decide : (0 : Int) ≤ 9223372036854775807)⟩
  · rw [hp] at hi
    rw [hi]
    exact ⟨(by decide : (-9223372036854775808 : Int) ≤ 0), (by decide : (0 : Int) ≤ 9223372036854775807)⟩
def msK (k : Int) : Ms := ⟨k, ⟨#[]⟩, sn0, 0, 0⟩
theorem sizeK (k : Int) : (Tryd.prog.info? 31).map (·.size) = some (msL (msK k) (.slice none 0 0) (.slice none 0 0) (.slice none 0 0)).toArray.size := by
  rw [List.size_toArray, msL_len (by show sn0.sum.length = 32; decide)]; kernel_rfl
theorem snL_one (s : Sn) {v0 v1 v2 : Value} (h0 : v0.oneCell' = true) (h1 : v1.oneCell' = true) (h2 : v2.oneCell' = true) : ∀ v ∈ snL s v0 v1 v2, v.oneCell' = true := by
  intro v hv
  simp only [snL, List.mem_append, List.mem_cons, List.not_mem_nil, or_false] at hv
  rcases hv with (rfl | rfl | rfl | rfl | rfl | rfl | rfl | rfl | rfl) | h
  all_goals first | rfl | assumption | exact byteCells_one _ _ h
theorem msL_one (m : Ms) {v0 v1 v2 : Value} (h0 : v0.oneCell' = true) (h1 : v1.oneCell' = true) (h2 : v2.oneCell' = true) : (msL m v0 v1 v2).toArray.all (·.oneCell') = true := by
  refine all_oneCell_toArray fun v hv => ?_
  simp only [msL, List.mem_append, List.mem_cons, List.not_mem_nil, or_false] at hv
  rcases hv with (rfl | rfl) | h | (rfl | rfl)
  · rfl
  · rfl
  · exact snL_one m.snap h0 h1 h2 _ h
  · rfl
  · rfl
theorem oneK (k : Int) : (msL (msK k) (.slice none 0 0) (.slice none 0 0) (.slice none 0 0)).toArray.all (·.oneCell') = true := msL_one _ rfl rfl rfl
theorem put_list {w : World} {b t : Nat} {L : List Value} (h : Row w b t L.toArray) (i : Nat) (v : Value) (L' : List Value) (e : L.set i v = L') : Row (w.setCell ⟨b, i, none⟩ v) b t L'.toArray := by
  subst e
  have := h.put i v
  rw [List.setIfInBounds_toArray] at this
  exact this
/-- A list of texts that lies in no block below b. -/
def From (b : Nat) (v : Value) : Prop := ∀ a n c, v = .slice (some a) n c → 0 < n → b ≤ a.block
theorem from_nil (b : Nat) : From b (.slice none 0 0) := fun _ _ _ e => by cases e
theorem TextsAt.one {w : World} {v : Value} {l : List ByteArray} (h : TextsAt w v l) : v.oneCell' = true := by
  obtain ⟨A, c, rfl, _⟩ := h
  rfl
theorem TextsAt.row {w : World} {v : Value} {l : List ByteArray} (h : TextsAt w v l) {b b' : Nat} (hf : From b v) (hb : b' < b) (X : Array Value) : TextsAt (w.setRow b' X) v l := by
  obtain ⟨A, c, rfl, h2, h3, h4⟩ := h
  refine ⟨A, c, rfl, h2, Kd.C_keep (g := b') ⟨#[]⟩ h3 ⟨by rw [setRow_size]; exact Nat.le_refl _, fun i _ hi _ => setRow_other w b' i X hi⟩ (fun ad e hn => ?_), h4⟩
  subst e
  have := hf ad _ _ rfl hn
  omega
theorem MsOk.row {w : World} {m : Ms} {v0 v1 v2 : Value} (h : MsOk w m v0 v1 v2) {b b' : Nat} (h0 : From b v0) (h1 : From b v1) (h2 : From b v2) (hb : b' < b) (X : Array Value) : MsOk (w.setRow b' X) m v0 v1 v2 :=
  ⟨⟨h.snap.h0.row h0 hb X, h.snap.h1.row h1 hb X, h.snap.h2.row h2 hb X, h.snap.hs, h.snap.hm, h.snap.hn, h.snap.hat, h.snap.hc, h.snap.hp, h.snap.hb⟩, h.hk, h.hd, h.hn, h.hw⟩
theorem nil_ok (w : World) (k : Int) (d : ByteArray) (n y : Int) (hk : -9223372036854775808 ≤ k ∧ k ≤ 9223372036854775807) (hd : d.size ≤ 140737488351232) (hn : -9223372036854775808 ≤ n ∧ n ≤ 9223372036854775807) (hy : -9223372036854775808 ≤ y ∧ y ≤ 9223372036854775807) :
    MsOk w ⟨k, d, sn0, n, y⟩ (.slice none 0 0) (.slice none 0 0) (.slice none 0 0) := ⟨(ms0_ok w).snap, hk, hd, hn, hy⟩
theorem ms_setData (k : Int) (d : ByteArray) (v0 v1 v2 : Value) : (msL (msK k) v0 v1 v2).set 1 (.string d) = msL ⟨k, d, sn0, 0, 0⟩ v0 v1 v2 := rfl
theorem ms_setN (k n : Int) (v0 v1 v2 : Value) : (msL (msK k) v0 v1 v2).set 43 (.int .i64 n) = msL ⟨k, ⟨#[]⟩, sn0, n, 0⟩ v0 v1 v2 := rfl
theorem ms_setWhy (k n : Int) (v0 v1 v2 : Value) : (msL (msK k) v0 v1 v2).set 44 (.int .i64 n) = msL ⟨k, ⟨#[]⟩, sn0, 0, n⟩ v0 v1 v2 := rfl
theorem ms_setSnap (k : Int) (S : Sn) (hS : S.sum.length = 32) (v0 v1 v2 u0 u1 u2 : Value) : (msL (msK k) v0 v1 v2).take 2 ++ snL S u0 u1 u2 ++ (msL (msK k) v0 v1 v2).drop (2 + (snL S u0 u1 u2).length) = msL ⟨k, ⟨#[]⟩, S, 0, 0⟩ u0 u1 u2 := by
  rw [snL_len hS]
  have e : (msL (msK k) v0 v1 v2).drop 43 = [.int .i64 0, .int .i64 0] := rfl
  rw [e]
  have e2 : (msL (msK k) v0 v1 v2).take 2 = [.int .i64 k, .string ⟨#[]⟩] := rfl
  rw [e2, List.append_assoc]
  rfl
theorem texts_two (s a d : ByteArray) (hs : s.size ≤ 1000000000) (hr : ofRow s = ([a, d], 0)) (w : World) : Calls Tryd.prog 29 #[.string s] w fun e w' => (∃ g c, e = .returned (.tuple #[.slice (some ⟨g, 0, none⟩) 2 c, .int .i64 0]) ∧ 2 ≤ c ∧ w'.cell? ⟨g, 0, none⟩ = some (.string a) ∧ w'.cell? ⟨g, 1, none⟩ = some (.string d)) ∧ Below w.heap.size w w' := by
  have hf := texts_f s hs
  rw [hr] at hf
  refine (PGet.num_Texts.calls _ s _ _ w hf).mono ?_
  rintro e w' ⟨v, rfl, hR, hb⟩
  obtain ⟨g, c, rfl, _, _⟩ := Kd.R_form hR (by simp)
  obtain ⟨-, hc, hC⟩ := Kd.R_reads' hR
  obtain ⟨ad, e0, hx0⟩ := Kd.at_string hC 0 (by omega) (by simp)
  cases e0
  obtain ⟨ad', e1, hx1⟩ := Kd.at_string hC 1 (by omega) (by simp)
  cases e1
  exact ⟨⟨g, c, rfl, hc, hx0, hx1⟩, hb⟩
set_option maxHeartbeats 8000000 in
set_option maxRecDepth 100000 in
theorem get_any (s a d : ByteArray) (hs : s.size ≤ 1000000000) (hr : ofRow s = ([a, d], 0)) (ha : a.size ≤ 1000000000) (hd : d.size ≤ 1000000000) (S : Sn) (eo : Int) (w : World) (hl : LaidE w)
    (hof : (int a).1 = 3 → ∀ w, LaidE w → Calls Tryd.prog 31 #[.string d] w fun e w' => (∃ u0 u1 u2, e = .returned (.tuple #[.agg (snL S u0 u1 u2).toArray, .int .i64 eo]) ∧ SnOk w' S u0 u1 u2 ∧ From w.heap.size u0 ∧ From w.heap.size u1 ∧ From w.heap.size u2) ∧ Below w.heap.size w w')
    (M R : Ms) (er : Int) (hM : M = getM (int a).1 d S (int d).1) (hR : if ((int a).1 = 3 → eo = 0) ∧ checkMs M = 0 ∧ putMs M = s then R = M ∧ er = 0 else R = ms0 ∧ er = 3) :
    Calls Tryd.prog 15 #[.string s] w fun e w' => (∃ u0 u1 u2, e = .returned (.tuple #[.agg (msL R u0 u1 u2).toArray, .int .i64 er]) ∧ MsOk w' R u0 u1 u2) ∧ Below w.heap.size w w' := by
  have HT := Sec.mk (fun w => texts_two s a d hs hr w)
  have HI1 := Sec.mk (fun w h => int_any a (by omega) w h)
  have HI2 := Sec.mk (fun w h => int_any d (by omega) w h)
  have hkr := int_range a
  have hnr := int_range d
  have hM2 := Row.new w (msL ms0 (.slice none 0 0) (.slice none 0 0) (.slice none 0 0)).toArray 31
  have hb0 := (Below.refl w.heap.size w).alloc (Nat.le_refl _) (.cells (msL ms0 (.slice none 0 0) (.slice none 0 0) (.slice none 0 0)).toArray 31)
  have HMR := Sec.mk (And.intro hM hR)
  have HOF := Sec.mk hof
  clear hM hR hof
  generalize int a = ia at *
  generalize int d = id at *
  obtain ⟨k, o1⟩ := ia
  obtain ⟨n, o2⟩ := id
  simp only [] at HI1 HI2 HMR HOF hkr hnr
  go_enter Tryd.func15, Tryd.ntmps15
  go_upto_region 1 with (fail)
  refine wp_abs (fun W HW => ?_)
  replace hM2 : Row W w.heap.size 31 (msL ms0 (.slice none 0 0) (.slice none 0 0) (.slice none 0 0)).toArray := by rw [HW.out]; exact hM2
  replace hb0 : Below w.heap.size w W := by rw [HW.out]; exact hb0
  clear HW
  go_wp2_with fail
  refine (HT.out W).mono ?_
  rintro e w1 ⟨⟨g, c, rfl, hc, hy0, hy1⟩, hb1⟩
  have hM21 := hM2.below hb1 hM2.lt
  replace hb1 := hb0.trans (hb1.mono hb0.size)
  clear hM2 hb0 HT
  have hn : ((2 : Int) != 2) = false := by decide
  have hlE := hl.below hb1
  go_wp2_with fail
  refine (HI1.out _ hlE).mono ?_
  rintro e w2 ⟨rfl, hb2⟩
  have hM22 := hM21.below hb2 hM21.lt
  have hz1 : w2.cell? ⟨g, 1, none⟩ = some (.string d) := (hb2.cell (cell_lt hy1)).trans hy1
  replace hb2 := hb1.trans (hb2.mono hb1.size)
  clear hM21 hy0 hy1 hb1 hlE HI1
  have hlE := hl.below hb2
  go_wp2_with fail
  refine (HI2.out _ hlE).mono ?_
  rintro e w3 ⟨rfl, hb3⟩
  have hM23 := hM22.below hb3 hM22.lt
  have hu1 : w3.cell? ⟨g, 1, none⟩ = some (.string d) := (hb3.cell (cell_lt hz1)).trans hz1
  replace hb3 := hb2.trans (hb3.mono hb2.size)
  clear hM22 hz1 hb2 hlE HI2
  have hx10 := (Row.new w3 (msL ms0 (.slice none 0 0) (.slice none 0 0) (.slice none 0 0)).toArray 31).row (C := (msL (msK k) (.slice none 0 0) (.slice none 0 0) (.slice none 0 0)).toArray)
  have hM24 := (hM23.alloc (.cells (msL ms0 (.slice none 0 0) (.slice none 0 0) (.slice none 0 0)).toArray 31)).rowOther (Nat.ne_of_lt hM23.lt) (msL (msK k) (.slice none 0 0) (.slice none 0 0) (.slice none 0 0)).toArray
  have hu4 : ((w3.alloc (.cells (msL ms0 (.slice none 0 0) (.slice none 0 0) (.slice none 0 0)).toArray 31)).setRow w3.heap.size (msL (msK k) (.slice none 0 0) (.slice none 0 0) (.slice none 0 0)).toArray).cell? ⟨g, 1, none⟩ = some (.string d) := by
    have hb : Below w3.heap.size w3 ((w3.alloc (.cells (msL ms0 (.slice none 0 0) (.slice none 0 0) (.slice none 0 0)).toArray 31)).setRow w3.heap.size (msL (msK k) (.slice none 0 0) (.slice none 0 0) (.slice none 0 0)).toArray) := below_row ((Below.refl w3.heap.size w3).alloc (Nat.le_refl _) _) (Nat.le_refl _) _
    exact (hb.cell (cell_lt hu1)).trans hu1
  have hb4 := below_row (hb3.alloc hb3.size (.cells (msL ms0 (.slice none 0 0) (.slice none 0 0) (.slice none 0 0)).toArray 31)) hb3.size (msL (msK k) (.slice none 0 0) (.slice none 0 0) (.slice none 0 0)).toArray
  have hlt4 := hM23.lt
  clear hM23 hu1 hb3
  go_upto_block 0 with (refine wpList_store_row rfl 31 (.tmp 10) (.tmp 41) rfl w3.heap.size (msL (msK k) (.slice none 0 0) (.slice none 0 0) (.slice none 0 0)).toArray rfl rfl 31 _ (Row.new w3 (msL ms0 (.slice none 0 0) (.slice none 0 0) (.slice none 0 0)).toArray 31) (sizeK k) rfl (oneK k) ?_)
  refine wp_abs (fun W4 HW => ?_)
  replace hx10 : Row W4 w3.heap.size 31 (msL (msK k) (.slice none 0 0) (.slice none 0 0) (.slice none 0 0)).toArray := by rw [HW.out]; exact hx10
  replace hM24 : Row W4 w.heap.size 31 (msL ms0 (.slice none 0 0) (.slice none 0 0) (.slice none 0 0)).toArray := by rw [HW.out]; exact hM24
  replace hu4 : W4.cell? ⟨g, 1, none⟩ = some (.string d) := by rw [HW.out]; exact hu4
  replace hb4 : Below w.heap.size w W4 := by rw [HW.out]; exact hb4
  clear HW
  generalize w3.heap.size = B at *
  clear hn
  have HL := Sec.mk hl
  have hBW : B < W4.heap.size := hx10.lt
  have HK := Sec.mk hkr
  have HN := Sec.mk hnr
  clear hl hkr hnr hs hr
  go_cut [5] (fun v5 wc => (∃ f, v5 = .int .i64 f ∧ Sec (f = 0 ↔ (k = 3 → eo = 0))) ∧ (∃ u0 u1 u2, Row wc B 31 (msL M u0 u1 u2).toArray ∧ MsOk wc M u0 u1 u2 ∧ From B u0 ∧ From B u1 ∧ From B u2) ∧ Row wc w.heap.size 31 (msL ms0 (.slice none 0 0) (.slice none 0 0) (.slice none 0 0)).toArray ∧ Below w.heap.size w wc)
  case first =>
    have c1 : W4.cell? ⟨B, 1, none⟩ = some (.string ⟨#[]⟩) := hx10.at_ 1
    have c43 : W4.cell? ⟨B, 43, none⟩ = some (.int .i64 0) := hx10.at_ 43
    have c44 : W4.cell? ⟨B, 44, none⟩ = some (.int .i64 0) := hx10.at_ 44
    have z1 : W4.frozen? ⟨B, 1, none⟩ = false := hx10.free 1
    have z43 : W4.frozen? ⟨B, 43, none⟩ = false := hx10.free 43
    have z44 : W4.frozen? ⟨B, 44, none⟩ = false := hx10.free 44
    by_cases e1 : k = 1
    · subst e1
      have eM : M = ⟨1, d, sn0, 0, 0⟩ := HMR.out.1
      go_wp2_with fail
      go_meet
      refine ⟨⟨0, rfl, ⟨by simp⟩⟩, ⟨_, _, _, by rw [eM]; exact put_list hx10 1 _ _ (ms_setData _ _ _ _ _), by rw [eM]; exact nil_ok _ 1 d 0 0 (by decide) (by omega) (by decide) (by decide), from_nil _, from_nil _, from_nil _⟩, hM24.aside (by show w.heap.size ≠ B; omega) _, hb4.setCell (p := ⟨B, 1, none⟩) (by show w.heap.size ≤ B; omega) _⟩
    by_cases e2 : k = 2
    · subst e2
      have eM : M = ⟨2, d, sn0, 0, 0⟩ := HMR.out.1
      go_wp2_with fail
      go_meet
      refine ⟨⟨0, rfl, ⟨by simp⟩⟩, ⟨_, _, _, by rw [eM]; exact put_list hx10 1 _ _ (ms_setData _ _ _ _ _), by rw [eM]; exact nil_ok _ 2 d 0 0 (by decide) (by omega) (by decide) (by decide), from_nil _, from_nil _, from_nil _⟩, hM24.aside (by show w.heap.size ≠ B; omega) _, hb4.setCell (p := ⟨B, 1, none⟩) (by show w.heap.size ≤ B; omega) _⟩
    by_cases e3 : k = 3
    · subst e3
      have eM : M = ⟨3, ⟨#[]⟩, S, 0, 0⟩ := HMR.out.1
      go_wp2_with fail
      refine (HOF.out trivial W4 (HL.out.below hb4)).mono ?_
      rintro e w5 ⟨⟨u0, u1, u2, rfl, hS, f0, f1, f2⟩, hb5⟩
      have hx105 := hx10.below hb5 hx10.lt
      have hM25 := hM24.below hb5 hM24.lt
      replace hb5 := hb4.trans (hb5.mono hb4.size)
      have hSs := hS.hs
      have hSn := snL_one S hS.h0.one hS.h1.one hS.h2.one
      have hSl : (snL S u0 u1 u2).length = 41 := snL_len hSs
      have hrow := hx105.row (C := (msL ⟨3, ⟨#[]⟩, S, 0, 0⟩ u0 u1 u2).toArray)
      have hS2 : MsOk (w5.setRow B (msL ⟨3, ⟨#[]⟩, S, 0, 0⟩ u0 u1 u2).toArray) M u0 u1 u2 := by
        rw [eM]
        exact MsOk.row ⟨hS, (by decide : (-9223372036854775808 : Int) ≤ 3 ∧ (3 : Int) ≤ 9223372036854775807), (by decide : (⟨#[]⟩ : ByteArray).size ≤ 140737488351232), (by decide : (-9223372036854775808 : Int) ≤ 0 ∧ (0 : Int) ≤ 9223372036854775807), (by decide : (-9223372036854775808 : Int) ≤ 0 ∧ (0 : Int) ≤ 9223372036854775807)⟩ f0 f1 f2 hBW _
      have hM26 := hM25.rowOther (b' := B) (by omega) (msL ⟨3, ⟨#[]⟩, S, 0, 0⟩ u0 u1 u2).toArray
      have hb6 := below_row hb5 (b := B) (by omega) (msL ⟨3, ⟨#[]⟩, S, 0, 0⟩ u0 u1 u2).toArray
      have hi28 : (Tryd.prog.info? 28).map (·.size) = some (snL S u0 u1 u2).length := by rw [hSl]; kernel_rfl
      have hms := ms_setSnap 3 S hSs (.slice none 0 0) (.slice none 0 0) (.slice none 0 0) u0 u1 u2
      have hle : 2 + (snL S u0 u1 u2).length ≤ (msL (msK 3) (.slice none 0 0) (.slice none 0 0) (.slice none 0 0)).length := by rw [hSl, msL_len (by show sn0.sum.length = 32; decide)]; decide
      have HS := Sec.mk hS2
      clear hS2 hS hSl hM24 hx10 hb4
      go_wp2_with (refine wpList_store_part rfl 28 (.tmp 59) (.tmp 57) rfl B 2 (snL S u0 u1 u2) rfl rfl 31 (msL (msK 3) (.slice none 0 0) (.slice none 0 0) (.slice none 0 0)) hx105 hi28 hle hSn ?_; rw [hms])
      go_meet
      refine ⟨⟨eo, rfl, ⟨by simp⟩⟩, ⟨u0, u1, u2, by rw [eM]; exact hrow, HS.out, fun a n c e hn => ?_, fun a n c e hn => ?_, fun a n c e hn => ?_⟩, hM26, hb6⟩
      · have := f0 a n c e hn; omega
      · have := f1 a n c e hn; omega
      · have := f2 a n c e hn; omega
    by_cases e4 : k = 4
    · subst e4
      have eM : M = ⟨4, ⟨#[]⟩, sn0, n, 0⟩ := HMR.out.1
      go_wp2_with fail
      go_meet
      refine ⟨⟨0, rfl, ⟨by simp⟩⟩, ⟨_, _, _, by rw [eM]; exact put_list hx10 43 _ _ (ms_setN _ _ _ _ _), by rw [eM]; exact nil_ok _ 4 ⟨#[]⟩ n 0 (by decide) (by decide) HN.out (by decide), from_nil _, from_nil _, from_nil _⟩, hM24.aside (by show w.heap.size ≠ B; omega) _, hb4.setCell (p := ⟨B, 43, none⟩) (by show w.heap.size ≤ B; omega) _⟩
    by_cases e5 : k = 5
    · subst e5
      have eM : M = ⟨5, ⟨#[]⟩, sn0, 0, n⟩ := HMR.out.1
      go_wp2_with fail
      go_meet
      refine ⟨⟨0, rfl, ⟨by simp⟩⟩, ⟨_, _, _, by rw [eM]; exact put_list hx10 44 _ _ (ms_setWhy _ _ _ _ _), by rw [eM]; exact nil_ok _ 5 ⟨#[]⟩ 0 n (by decide) (by decide) (by decide) HN.out, from_nil _, from_nil _, from_nil _⟩, hM24.aside (by show w.heap.size ≠ B; omega) _, hb4.setCell (p := ⟨B, 44, none⟩) (by show w.heap.size ≤ B; omega) _⟩
    · have eM : M = msK k := by rw [HMR.out.1]; unfold getM; rw [if_neg e3, if_neg (by omega), if_neg e4, if_neg e5]; rfl
      have b1 : (k == 1) = false := beq_eq_false_iff_ne.2 e1
      have b2 : (k == 2) = false := beq_eq_false_iff_ne.2 e2
      have b3 : (k == 3) = false := beq_eq_false_iff_ne.2 e3
      have b4 : (k == 4) = false := beq_eq_false_iff_ne.2 e4
      have b5 : (k == 5) = false := beq_eq_false_iff_ne.2 e5
      have E3 := Sec.mk e3
      clear e1 e2 e3 e4 e5
      go_wp2_with fail
      go_meet
      refine ⟨⟨0, rfl, ⟨by simp; intro h; exact absurd h E3.out⟩⟩, ⟨_, _, _, by rw [eM]; exact hx10, by rw [eM]; exact nil_ok _ k ⟨#[]⟩ 0 0 HK.out (by decide) (by decide) (by decide), from_nil _, from_nil _, from_nil _⟩, hM24, hb4⟩
  case rest =>
    obtain ⟨⟨f, rfl, HF⟩, ⟨u0, u1, u2, hrow, hok, f0, f1, f2⟩, hM2, hb⟩ := hcut
    have hsM := hok.snap.hs
    have hx := ms_whole hrow hsM
    clear hM24 hu4 hb4 hx10
    go_wp2_with (refine wpList_load_list rfl 31 (.tmp 10) rfl B 0 rfl _ hx ?_)
    refine (put_any M u0 u1 u2 _ hok (HL.out.below hb).toLaid).mono ?_
    rintro e w6 ⟨rfl, hb6⟩
    have hrow6 := hrow.below hb6 hrow.lt
    have hM6 := hM2.below hb6 hM2.lt
    have hok6 := hok.below hb6
    replace hb6 := hb.trans (hb6.mono hb.size)
    have hx6 := ms_whole hrow6 hsM
    clear hx hrow hM2 hok hb
    by_cases hgood : ((k = 3 → eo = 0) ∧ checkMs M = 0 ∧ putMs M = s)
    · have hR := HMR.out.2
      rw [if_pos hgood] at hR
      have HR := Sec.mk hR
      obtain ⟨g1, g2, g3⟩ := hgood
      obtain rfl : f = 0 := HF.out.2 g1
      rw [g2, g3]
      have hss : (s.toList != s.toList) = false := bne_self_eq_false _
      have hok7 := Sec.mk (hok6.row f0 f1 f2 hlt4 (msL M u0 u1 u2).toArray)
      have sizeM : (Tryd.prog.info? 31).map (·.size) = some (msL M u0 u1 u2).toArray.size := by
        rw [List.size_toArray, msL_len hsM]; kernel_rfl
      have holdM : (msL ms0 (.slice none 0 0) (.slice none 0 0) (.slice none 0 0)).toArray.size = (msL M u0 u1 u2).toArray.size := by
        rw [List.size_toArray, List.size_toArray, msL_len hsM, msL_len (by decide)]
      have oneM := msL_one M hok6.snap.h0.one hok6.snap.h1.one hok6.snap.h2.one
      have hrow7 := hM6.row (C := (msL M u0 u1 u2).toArray)
      clear g1 g2 g3 hR hok6
      go_wp2_with (first
        | refine wpList_load_list rfl 31 (.tmp 10) rfl B 0 rfl _ hx6 ?_
        | refine wpList_store_row rfl 31 (.tmp 2) (.tmp 85) rfl w.heap.size (msL M u0 u1 u2).toArray rfl rfl 31 _ hM6 sizeM holdM oneM ?_)
      exact get_ret hrow7 hsM 0 _ rfl rfl rfl _ ⟨⟨u0, u1, u2, by rw [HR.out.1, HR.out.2], by rw [HR.out.1]; exact hok7.out⟩, below_row hb6 (Nat.le_refl _) _⟩
    · have hR := HMR.out.2
      rw [if_neg hgood] at hR
      have HR := Sec.mk hR
      have HG := Sec.mk (fun (h0 : f = 0) (h1 : checkMs M = 0) (h2 : putMs M = s) => hgood ⟨HF.out.1 h0, h1, h2⟩)
      clear hR hgood HF hok6 hx6
      generalize checkMs M = z at *
      generalize putMs M = pm at *
      by_cases f0 : f = 0
      · subst f0
        by_cases z0 : z = 0
        · subst z0
          have hne : (pm.toList == s.toList) = false := by
            rw [beq_eq_false_iff_ne]
            intro h
            exact HG.out rfl rfl ((toList_inj _ _).1 h)
          go_wp2_with (refine wpList_store_row rfl 31 (.tmp 2) (.tmp 84) rfl w.heap.size (msL ms0 (.slice none 0 0) (.slice none 0 0) (.slice none 0 0)).toArray rfl rfl 31 _ hM6 size0 rfl one0 ?_)
          exact get_ret hM6.row (by decide) 3 _ rfl rfl rfl _ ⟨⟨_, _, _, by rw [HR.out.1, HR.out.2], by rw [HR.out.1]; exact ms0_ok _⟩, below_row hb6 (Nat.le_refl _) _⟩
        · have hz : (z != 0) = true := bne_iff_ne.2 z0
          clear HG z0
          go_wp2_with (refine wpList_store_row rfl 31 (.tmp 2) (.tmp 84) rfl w.heap.size (msL ms0 (.slice none 0 0) (.slice none 0 0) (.slice none 0 0)).toArray rfl rfl 31 _ hM6 size0 rfl one0 ?_)
          exact get_ret hM6.row (by decide) 3 _ rfl rfl rfl _ ⟨⟨_, _, _, by rw [HR.out.1, HR.out.2], by rw [HR.out.1]; exact ms0_ok _⟩, below_row hb6 (Nat.le_refl _) _⟩
      · have hz : (f != 0) = true := bne_iff_ne.2 f0
        clear HG f0
        go_wp2_with (refine wpList_store_row rfl 31 (.tmp 2) (.tmp 84) rfl w.heap.size (msL ms0 (.slice none 0 0) (.slice none 0 0) (.slice none 0 0)).toArray rfl rfl 31 _ hM6 size0 rfl one0 ?_)
        exact get_ret hM6.row (by decide) 3 _ rfl rfl rfl _ ⟨⟨_, _, _, by rw [HR.out.1, HR.out.2], by rw [HR.out.1]; exact ms0_ok _⟩, below_row hb6 (Nat.le_refl _) _⟩
end Go.Proofs.YtokcmaehojljdaaDoor

/- manifest.Of at a snapshot's bytes: its walk. -/
namespace Go.Proofs.YtokcmaehojljdaaDoor
open Go.RowKit Go.Shelf Go.Proofs.YtokcmaehojljdaaDoorW.PrintWords Go.Proofs.YtokcmaehojljdaaDoorW.PrintLast Go.Proofs.YtokcmaehojljdaaDoorW.PrintMore

def Held (w : World) (q : Nat) (V : List Value) : Prop := ∀ j u, V[j]? = some u → w.cell? ⟨q, j, none⟩ = some u
theorem Held.below {w w' : World} {q : Nat} {V : List Value} (h : Held w q V) (hb : Below w.heap.size w w') : Held w' q V := fun j u hj => (hb.cell (cell_lt (h j u hj))).trans (h j u hj)
theorem load_sum {w : World} {q : Nat} {X : List UInt8} (h : Held w q (Lib.byteCells X)) (hX : X.length = 32) : (loadVar 26 ⟨q, 0, none⟩).run Tryd.prog w = .ok (.agg (Lib.byteCells X).toArray) w := by
  have hl : (loadCells ⟨q, 0, none⟩ (Lib.byteCells X).length).run Tryd.prog w = .ok (Lib.byteCells X).toArray w :=
    run_loadCells_list (P := Tryd.prog) w ⟨q, 0, none⟩ (Lib.byteCells X) (fun j v hv => by
      have hadd : (⟨q, 0, none⟩ : Addr).add j = ⟨q, j, none⟩ := by unfold Addr.add; split <;> simp_all
      rw [hadd]; exact h j v hv)
  obtain ⟨i, hq, hs⟩ : ∃ i, Tryd.prog.info? 26 = some i ∧ i.size = (Lib.byteCells X).length := by
    have e : (Tryd.prog.info? 26).map (·.size) = some 32 := by kernel_rfl
    obtain ⟨i, hi, hs⟩ := Option.map_eq_some_iff.1 e
    exact ⟨i, hi, by rw [hs, Lib.byteCells_length, hX]⟩
  have hagg : (isAgg 26).run Tryd.prog w = .ok true w := by
    unfold isAgg
    rw [Sem.run_bind, run_underlying Tryd.underlying26 w]
    simp
  simp [loadVar, Sem.run_bind, hagg, sizeOf, typeInfo, hq, hs, hl]
theorem held_bytes (w : World) (s : ByteArray) : Held (Lib.bytesWorld w 5 s) w.heap.size (Lib.byteCells s.data.toList) := by
  intro j u hj
  have hjl : j < s.size := by
    have := (List.getElem?_eq_some_iff.1 hj).1
    rw [Lib.byteCells_length] at this
    simpa using this
  rw [Lib.bytesWorld_cell w 5 s j hjl]
  have hl : j < s.data.toList.length := by simpa using hjl
  have hg : s.data.toList.getD j 0 = s.data.toList[j] := by rw [List.getD_eq_getElem?_getD, List.getElem?_eq_getElem hl]; rfl
  rw [hg, ← hj]
  simp [Lib.byteCells, List.getElem?_eq_getElem hl]
def sA (m : ByteArray) (n a c p b : Int) (X : List UInt8) : Sn := ⟨m, n, a, c, p, b, [], [], [], X⟩
theorem built28 (m : ByteArray) (c : Int) : ∀ (X : List UInt8), X.length = 32 → Tryd.prog.built 28 [(0, .string m), (3, .int .u64 c), (7, .agg (Lib.byteCells X).toArray)] = some (snL (sA m 0 0 c 0 0 X) (.slice none 0 0) (.slice none 0 0) (.slice none 0 0)).toArray
  | [a0, a1, a2, a3, a4, a5, a6, a7, a8, a9, a10, a11, a12, a13, a14, a15, a16, a17, a18, a19, a20, a21, a22, a23, a24, a25, a26, a27, a28, a29, a30, a31], _ => by kernel_rfl
theorem any_abs {P : Program} {md : Region.Mode} {ops : Array Oper} {Q : Exit → Act → World → Prop} {S : World → Prop} {fuel : Nat} {listed : Array Bool} {a : Act} {w0 : World} (h : ∀ W, Sec (W = w0) → wpAnyH P md ops Q S fuel listed a W) : wpAnyH P md ops Q S fuel listed a w0 := h w0 ⟨rfl⟩
theorem size28 (S : Sn) (hS : S.sum.length = 32) (v0 v1 v2 : Value) : (Tryd.prog.info? 28).map (·.size) = some (snL S v0 v1 v2).toArray.size := by
  rw [List.size_toArray, snL_len hS]; kernel_rfl
theorem hold28 {m : ByteArray} {c : Int} {X : List UInt8} (hX : X.length = 32) : (snL sn0 (.slice none 0 0) (.slice none 0 0) (.slice none 0 0)).toArray.size = (snL (sA m 0 0 c 0 0 X) (.slice none 0 0) (.slice none 0 0) (.slice none 0 0)).toArray.size := by
  rw [List.size_toArray, List.size_toArray, snL_len (by decide), snL_len hX]
theorem yi_build {P : Program} {ops : Array Oper} {S : World → Prop} {a : Act} {o : Oper} (hw : Region.wanted o (yielded ops a.tmps) = true) (t : TypeId) (parts : Array (Nat × Operand)) (ho : o.op = .build t parts) (vals : List (Nat × Value))
    (hv : (parts.map fun (i, x) => (i, a.eval x)).toList = vals) (cells : Array Value) (h : P.built t vals = some cells) : YieldsIf P ops S o (.agg cells) a :=
  .inl ⟨hw, fun w _ => by
    have hr := run_build (P := P) w t (parts.map fun (i, x) => (i, a.eval x)) cells (by rw [hv]; exact h)
    unfold execOp
    simp only [ho, Sem.run_bind, hr, Result.andThen_ok, Sem.run_pure]⟩
theorem yi_build3 {P : Program} {ops : Array Oper} {S : World → Prop} {a : Act} {o : Oper} (hw : Region.wanted o (yielded ops a.tmps) = true) (t i j k : Nat) (x y z : Operand) (ho : o.op = .build t #[(i, x), (j, y), (k, z)]) (u v q : Value)
    (hx : a.eval x = u) (hy : a.eval y = v) (hz : a.eval z = q) (cells : Array Value) (h : P.built t [(i, u), (j, v), (k, q)] = some cells) : YieldsIf P ops S o (.agg cells) a :=
  yi_build hw t _ ho _ (by simp [hx, hy, hz]) cells h
/-- What the texts of a snapshot's bytes are. -/
structure Cells11 (w : World) (g : Nat) (r1 r2 r3 r4 r5 r6 r7 r8 r9 r10 : ByteArray) : Prop where
  c1 : w.cell? ⟨g, 1, none⟩ = some (.string r1)
  c2 : w.cell? ⟨g, 2, none⟩ = some (.string r2)
  c3 : w.cell? ⟨g, 3, none⟩ = some (.string r3)
  c4 : w.cell? ⟨g, 4, none⟩ = some (.string r4)
  c5 : w.cell? ⟨g, 5, none⟩ = some (.string r5)
  c6 : w.cell? ⟨g, 6, none⟩ = some (.string r6)
  c7 : w.cell? ⟨g, 7, none⟩ = some (.string r7)
  c8 : w.cell? ⟨g, 8, none⟩ = some (.string r8)
  c9 : w.cell? ⟨g, 9, none⟩ = some (.string r9)
  c10 : w.cell? ⟨g, 10, none⟩ = some (.string r10)
theorem Cells11.below {w w' : World} {g : Nat} {r1 r2 r3 r4 r5 r6 r7 r8 r9 r10 : ByteArray} (h : Cells11 w g r1 r2 r3 r4 r5 r6 r7 r8 r9 r10) (hb : Below w.heap.size w w') : Cells11 w' g r1 r2 r3 r4 r5 r6 r7 r8 r9 r10 :=
  ⟨(hb.cell (cell_lt h.c1)).trans h.c1, (hb.cell (cell_lt h.c2)).trans h.c2, (hb.cell (cell_lt h.c3)).trans h.c3, (hb.cell (cell_lt h.c4)).trans h.c4, (hb.cell (cell_lt h.c5)).trans h.c5,
   (hb.cell (cell_lt h.c6)).trans h.c6, (hb.cell (cell_lt h.c7)).trans h.c7, (hb.cell (cell_lt h.c8)).trans h.c8, (hb.cell (cell_lt h.c9)).trans h.c9, (hb.cell (cell_lt h.c10)).trans h.c10⟩
theorem texts_eleven (s r0 r1 r2 r3 r4 r5 r6 r7 r8 r9 r10 : ByteArray) (hs : s.size ≤ 1000000000) (hr : ofRow s = ([r0, r1, r2, r3, r4, r5, r6, r7, r8, r9, r10], 0)) (w : World) :
    Calls Tryd.prog 29 #[.string s] w fun e w' => (∃ g c, e = .returned (.tuple #[.slice (some ⟨g, 0, none⟩) 11 c, .int .i64 0]) ∧ 11 ≤ c ∧ Cells11 w' g r1 r2 r3 r4 r5 r6 r7 r8 r9 r10) ∧ Below w.heap.size w w' := by
  have hf := texts_f s hs
  rw [hr] at hf
  refine (PGet.num_Texts.calls _ s _ _ w hf).mono ?_
  rintro e w' ⟨v, rfl, hR, hb⟩
  obtain ⟨g, c, rfl, _, _⟩ := Kd.R_form hR (by simp)
  obtain ⟨-, hc, hC⟩ := Kd.R_reads' hR
  have at_ : ∀ (j : Nat) (x : ByteArray), [r0, r1, r2, r3, r4, r5, r6, r7, r8, r9, r10][j]? = some x → w'.cell? ⟨g, j, none⟩ = some (.string x) := fun j x hx => by
    have hj := (List.getElem?_eq_some_iff.1 hx).1
    obtain ⟨ad, e0, h0⟩ := Kd.at_string hC (j : Int) (by omega) (by have h' : j < 11 := hj; show (j : Int) < ((11 : Nat) : Int); omega)
    cases e0
    rw [rdOf_at _ _ _ _ hx] at h0
    have hadd : (⟨g, 0, none⟩ : Addr).add (Int.toNat (j : Int)) = ⟨g, j, none⟩ := by rw [Int.toNat_natCast]; unfold Addr.add; split <;> simp_all
    rw [hadd] at h0
    exact h0
  exact ⟨⟨g, c, rfl, hc, at_ 1 _ rfl, at_ 2 _ rfl, at_ 3 _ rfl, at_ 4 _ rfl, at_ 5 _ rfl, at_ 6 _ rfl, at_ 7 _ rfl, at_ 8 _ rfl, at_ 9 _ rfl, at_ 10 _ rfl⟩, hb⟩
theorem set_same {w : World} {b t : Nat} {v : Value} (h : Row w b t #[v]) : w.setCell ⟨b, 0, none⟩ v = w := by
  rw [setCell_eq_setRow w b 0 #[v] t (0, 0) v h]
  exact setRow_self w b #[v] t (0, 0) h
set_option maxHeartbeats 4000000 in
set_option maxRecDepth 100000 in
theorem number_any (ii : Int) (i b4 b7 g c : Nat) (x : ByteArray) (n : Int) (hii : ii = (i : Int)) (hi : i < 11) (hx : int x = (n, true)) (hsz : x.size ≤ 1000000) (W : World) (hl : LaidE W)
    (h4 : Row W b4 23 #[.slice (some ⟨g, 0, none⟩) 11 c]) (hc : W.cell? ⟨g, i, none⟩ = some (.string x)) (h7 : Row W b7 4 #[.bool true]) :
    Calls Tryd.prog 56 #[.int .i64 ii, .pointer (some ⟨b4, 0, none⟩), .pointer (some ⟨b7, 0, none⟩)] W fun e w' => e = .returned (.int .i64 n) ∧ Below W.heap.size W w' := by
  subst hii
  have HI := Sec.mk (fun w h => int_any x (by omega) w h)
  rw [hx] at HI
  simp only [] at HI
  have k4 : W.cell? ⟨b4, 0, none⟩ = some (.slice (some ⟨g, 0, none⟩) 11 c) := h4.get
  have p1 : (0 ≤ (i : Int)) = True := eq_true (by omega)
  have q1 : ((i : Int) < 11) = True := eq_true (by omega)
  clear hx
  go_enter Tryd.func56, Tryd.ntmps56
  go_wp2_with fail
  refine (HI.out W hl).mono ?_
  rintro e w2 ⟨rfl, hb2⟩
  have h72 := h7.below hb2 h7.lt
  have k7 : w2.cell? ⟨b7, 0, none⟩ = some (.bool true) := h72.get
  have f7 := h72.free 0
  have hss := set_same h72
  clear k4 hc h4 h7 HI
  go_wp2_with fail
  go_ret
  exact ⟨rfl, by first | exact hb2 | (rw [hss]; exact hb2)⟩
theorem Cells11.aside {w : World} {g : Nat} {r1 r2 r3 r4 r5 r6 r7 r8 r9 r10 : ByteArray} (h : Cells11 w g r1 r2 r3 r4 r5 r6 r7 r8 r9 r10) {a : Addr} (ha : g ≠ a.block) (v : Value) : Cells11 (w.setCell a v) g r1 r2 r3 r4 r5 r6 r7 r8 r9 r10 := by
  have k : ∀ j, (w.setCell a v).cell? ⟨g, j, none⟩ = w.cell? ⟨g, j, none⟩ := fun j => World.cell?_setCell_other _ _ _ _ (by intro e; exact ha (congrArg Addr.block e).symm)
  exact ⟨(k 1).trans h.c1, (k 2).trans h.c2, (k 3).trans h.c3, (k 4).trans h.c4, (k 5).trans h.c5, (k 6).trans h.c6, (k 7).trans h.c7, (k 8).trans h.c8, (k 9).trans h.c9, (k 10).trans h.c10⟩
theorem texts_of_R {w : World} {base : Nat} {v : Value} {l : List ByteArray} (h : Kd.R Kd.string 9 w base (fun _ => True) v l) (hl : l.length ≤ 140737488351232) (hs : ∀ s ∈ l, s.size ≤ 140737488351232) : TextsAt w v l ∧ From base v := by
  obtain ⟨A, c, rfl, hc, hC⟩ := Kd.R_reads h
  refine ⟨⟨A, c, rfl, hc, hC, hl, hs⟩, fun a n c' e hn => ?_⟩
  injection e with e1 e2 e3
  subst e1 e2
  obtain ⟨g, cap, e4, hg, _, _⟩ := Kd.R_form h hn
  injection e4 with e5
  injection e5 with e5
  rw [e5]
  exact hg
theorem TextsAt.set {w : World} {v : Value} {l : List ByteArray} (h : TextsAt w v l) {b p : Nat} (hf : From b v) (hp : p < b) (j : Nat) (u : Value) : TextsAt (w.setCell ⟨p, j, none⟩ u) v l := by
  obtain ⟨A, c, rfl, h2, h3, h4⟩ := h
  refine ⟨A, c, rfl, h2, Kd.C_keep (g := p) ⟨#[]⟩ h3 ((KeepBut.refl w p none).set_ j u) (fun ad e hn => ?_), h4⟩
  subst e
  have := hf ad _ _ rfl hn
  omega
theorem names_small (s : ByteArray) (hs : s.size ≤ 1000000) : (namesOf s).length ≤ 140737488351232 ∧ ∀ x ∈ namesOf s, x.size ≤ 140737488351232 := by
  unfold namesOf
  split
  · refine ⟨by rw [List.length_map, pcs_len]; omega, fun x hx => ?_⟩
    obtain ⟨X, hX, rfl⟩ := List.mem_map.1 hx
    obtain ⟨j, hj⟩ := List.getElem?_of_mem hX
    have hjl := (List.getElem?_eq_some_iff.1 hj).1
    rw [pcs_len] at hjl
    rw [pcs_at _ _ j hjl] at hj
    rw [hexS_len, ← Option.some.inj hj, List.length_take]
    omega
  · exact ⟨by simp, by simp⟩
theorem From.mono {b b' : Nat} {v : Value} (h : From b v) (hb : b' ≤ b) : From b' v := fun a n c e hn => Nat.le_trans hb (h a n c e hn)
theorem of_ret {W : World} {b : Nat} {s : Sn} {v0 v1 v2 : Value} (h : Row W b 28 (snL s v0 v1 v2).toArray) (hs : s.sum.length = 32) (e : Int) (act : Act) (hd : act.defers = [])
    (h2 : act.tmps.getD 2 undef = .pointer (some ⟨b, 0, none⟩)) (h3 : act.tmps.getD 3 undef = .int .i64 e) (Q : Ending → World → Prop) (hQ : Q (.returned (.tuple #[.agg (snL s v0 v1 v2).toArray, .int .i64 e])) W) :
    bodyPost Tryd.prog Tryd.f31 Q Exit.ret act W := by
  refine bodyPost_ret (v := .tuple #[.agg (snL s v0 v1 v2).toArray, .int .i64 e]) ?_ hd hQ
  rw [results_cell_tmp rfl, h2, h3]
  have hl := sn_whole h hs
  simp [asAddr, hl]
end Go.Proofs.YtokcmaehojljdaaDoor
