/- manifest.Bytes: its walk. -/
import Derived.Test.YtokcmaehojljdaaDoorWChk
import Derived.Test.YtokcmaehojljdaaDoorPutPure
import Derived.Lib.ItoaLen
namespace Go.Proofs.YtokcmaehojljdaaDoor
open Go.RowKit Go.Shelf Go.Proofs.YtokcmaehojljdaaDoorW.PrintWords Go.Proofs.YtokcmaehojljdaaDoorW.PrintLast Go.Proofs.YtokcmaehojljdaaDoorW.PrintMore

def hibm : ByteArray := ⟨#[104, 105, 98, 109]⟩
def headSn (s : Sn) : List ByteArray := [hibm, s.mach, dec s.n, dec s.at_, ⟨(putU s.clock.toNat 8).toArray⟩, dec s.pages, dec s.blocks]
def digs (l : List ByteArray) : ByteArray := ⟨(l.flatMap ofD).toArray⟩
def rowTo (s : Sn) (i : Nat) : List ByteArray := headSn s ++ (List.range i).map fun j => digs (lst s j)
def rowSn (s : Sn) : List ByteArray := rowTo s 3 ++ [⟨s.sum.toArray⟩]
def bytesSn (s : Sn) : ByteArray := if checkSn s = 0 then ⟨(rowU (rowSn s)).toArray⟩ else ⟨#[]⟩
theorem R_new (W : World) (base : Nat) (hb : base < W.heap.size) (xs : List ByteArray) (hm : xs.length ≤ 1000) : Kd.R Kd.string 9 (W.alloc (.cells (xs.map Value.string).toArray 9)) base (fun k => k ≠ base) (.slice (some ⟨W.heap.size, 0, none⟩) xs.length xs.length) xs := by
  refine Kd.R_of_own ?_ (fun k hk => by
    have : W.heap.size = k := by simpa [Value.ownBlock] using hk
    omega)
  have h := World.ownsRow_lit (base := base) (e := 9) (size := 1) W (xs.map Value.string).toArray xs.length (Nat.le_of_lt hb) (by unfold maxLen; omega) (by simp)
  exact h
theorem info9 : (Tryd.prog.info? 9).map (fun i => (i.zero, i.size, i.bytes)) = some (some (.string ⟨#[]⟩), 1, 16) := by kernel_rfl
theorem check_zero (s : Sn) (h : checkSn s = 0) : machineB s.mach = true ∧ rangeB s = true ∧ sumTo s 3 ≤ 1000 ∧ badS s = false := by
  unfold checkSn at h
  by_cases h1 : machineB s.mach = false
  · rw [if_pos h1] at h; exact absurd h (by decide)
  rw [if_neg h1] at h
  by_cases h2 : rangeB s = false
  · rw [if_pos h2] at h; exact absurd h (by decide)
  rw [if_neg h2] at h
  by_cases h3 : 1000 < sumTo s 3
  · rw [if_pos h3] at h; exact absurd h (by decide)
  rw [if_neg h3] at h
  by_cases h4 : badS s = true
  · rw [if_pos h4] at h; exact absurd h (by decide)
  exact ⟨by simpa using h1, by simpa using h2, by omega, by simpa using h4⟩
theorem lst_le (s : Sn) (i : Nat) (h : i < 3) : (lst s i).length ≤ sumTo s 3 := by
  have h : i = 0 ∨ i = 1 ∨ i = 2 := by omega
  rcases h with rfl | rfl | rfl <;> simp [lst, sumTo] <;> omega
theorem flat_len (l : List ByteArray) : (l.flatMap ofD).length = 32 * l.length := by
  induction l with
  | nil => rfl
  | cons x l ih => rw [List.flatMap_cons, List.length_append, ofD_len, ih, List.length_cons]; omega
theorem rowU_bound (B : Nat) (hB : B < 268435456) (l : List ByteArray) (h : ∀ s ∈ l, s.size ≤ B) : (rowU l).length ≤ l.length * (B + 4) := by
  induction l with
  | nil => simp [rowU]
  | cons s l ih =>
    have e : rowU (s :: l) = lenU s.size ++ (s.data.toList ++ rowU l) := by simp [rowU]
    have hsz : s.data.toList.length = s.size := by simp
    have h1 := h s (by simp)
    have h2 := lenU_len 3 s.size (by simp; omega)
    have h3 := ih (fun x hx => h x (by simp [hx]))
    rw [e, List.length_append, List.length_append, hsz, List.length_cons, Nat.add_mul, Nat.one_mul]
    omega
theorem machine_size (s : ByteArray) (h : machineB s = true) : s.size ≤ 24 := by
  unfold machineB at h
  rw [Bool.and_eq_true, Bool.and_eq_true, decide_eq_true_eq] at h
  exact h.1.2
theorem rowSn_len (s : Sn) (h : checkSn s = 0) (hs : s.sum.length = 32) (hn : -9223372036854775808 ≤ s.n ∧ s.n ≤ 9223372036854775807) (hat : -9223372036854775808 ≤ s.at_ ∧ s.at_ ≤ 9223372036854775807)
    (hp : -9223372036854775808 ≤ s.pages ∧ s.pages ≤ 9223372036854775807) (hb : -9223372036854775808 ≤ s.blocks ∧ s.blocks ≤ 9223372036854775807) : (rowU (rowSn s)).length ≤ 1000000 := by
  obtain ⟨h1, _, h3, _⟩ := check_zero s h
  have hm := machine_size _ h1
  have hd : ∀ n, -9223372036854775808 ≤ n ∧ n ≤ 9223372036854775807 → (dec n).size ≤ 32000 := fun n hn => by
    have := Lib.itoa_length_le n hn.1 hn.2
    have e : (dec n).size = (Lib.itoa n).length := bytes_size _
    omega
  have hg : ∀ i, i < 3 → (digs (lst s i)).size ≤ 32000 := fun i hi => by
    have := lst_le s i hi
    have e : (digs (lst s i)).size = ((lst s i).flatMap ofD).length := bytes_size _
    rw [e, flat_len]; omega
  have hl : (rowSn s).length = 11 := by simp [rowSn, rowTo, headSn]
  have := rowU_bound 32000 (by decide) (rowSn s) (fun x hx => by
    have h32 : (⟨s.sum.toArray⟩ : ByteArray).size ≤ 32000 := by rw [bytes_size, hs]; decide
    have h8 : (⟨(putU s.clock.toNat 8).toArray⟩ : ByteArray).size ≤ 32000 := by rw [bytes_size, putU_len]; decide
    have h4 : hibm.size ≤ 32000 := by decide
    simp only [rowSn, rowTo, headSn, List.range_succ, List.range_zero, List.map_append, List.map_cons, List.map_nil, List.nil_append, List.mem_append, List.mem_cons, List.not_mem_nil, or_false] at hx
    rcases hx with ((rfl | rfl | rfl | rfl | rfl | rfl | rfl) | (rfl | rfl) | rfl) | rfl
    · exact h4
    · omega
    · exact hd _ hn
    · exact hd _ hat
    · exact h8
    · exact hd _ hp
    · exact hd _ hb
    · exact hg 0 (by decide)
    · exact hg 1 (by decide)
    · exact hg 2 (by decide)
    · exact h32)
  rw [hl] at this
  omega
theorem sum_text {w : World} {b : Nat} {s : Sn} {v0 v1 v2 : Value} (h : Row w b 28 (snL s v0 v1 v2).toArray) (hs : s.sum.length = 32) :
    (convert 42 9 (.slice (some ⟨b, 9, none⟩) 32 32)).run Tryd.prog w = .ok (.string ⟨s.sum.toArray⟩) w := by
  have key := run_convert_bytes_arg (P := Tryd.prog) w 42 5 Tryd.underlying42 Tryd.underlying5 b 9 32 32 (s.sum.map fun u : UInt8 => (u.toNat : Int)) (by simp [hs]) (fun j hj => by
    rw [h.at_ (9 + j), snL, List.getElem?_append_right (by simp)]
    simp [Lib.byteCells, List.getD_eq_getElem?_getD, List.getElem?_eq_getElem (show j < s.sum.length by omega)]) 9 Tryd.underlying9
  have e : strOfNums (s.sum.map fun u : UInt8 => (u.toNat : Int)) = ⟨s.sum.toArray⟩ := by
    unfold strOfNums
    rw [List.map_map]
    have : ((fun n : Int => UInt8.ofNat n.toNat) ∘ fun u : UInt8 => (u.toNat : Int)) = id := by
      funext u
      simp
    rw [this, List.map_id]
  rw [key, e]
theorem rowTo_next (s : Sn) (i : Nat) : rowTo s (i + 1) = rowTo s i ++ [digs (lst s i)] := by simp [rowTo, List.range_succ]
set_option maxHeartbeats 8000000 in
set_option maxRecDepth 100000 in
theorem bytes_any (s : Sn) (v0 v1 v2 : Value) (w : World) (h : SnOk w s v0 v1 v2) (hl : Laid w) :
    Calls Tryd.prog 18 #[.agg (snL s v0 v1 v2).toArray] w fun e w' => e = .returned (.tuple #[.string (bytesSn s), .int .i64 (checkSn s)]) ∧ Below w.heap.size w w' := by
  have hs := h.hs
  have hn := h.hn
  have hat := h.hat
  have hc := h.hc
  have hp := h.hp
  have hbk := h.hb
  have hR := Row.new w (snL s v0 v1 v2).toArray 28
  have hb0 := (Below.refl w.heap.size w).alloc (Nat.le_refl _) (.cells (snL s v0 v1 v2).toArray 28)
  have hlt0 : w.heap.size < (w.alloc (.cells (snL s v0 v1 v2).toArray 28)).heap.size := by rw [size_alloc]; omega
  go_enter Tryd.func18, Tryd.ntmps18
  go_upto_region 1 with (fail)
  refine wp_abs (fun W HW => ?_)
  rw [← HW.out] at hR hb0 hlt0
  clear HW
  have hwh := sn_whole hR hs
  go_wp2_with (refine wpList_load_list rfl 28 (.tmp 1) rfl w.heap.size 0 rfl _ hwh ?_)
  clear hwh
  refine (check_any s v0 v1 v2 _ (h.below hb0)).mono ?_
  rintro e w1 ⟨rfl, hb1⟩
  have hR1 : Row w1 w.heap.size 28 _ := hR.below hb1 hlt0
  replace hb1 := hb0.trans (hb1.mono hb0.size)
  clear hR hb0 hlt0
  have hby : bytesSn s = if checkSn s = 0 then ⟨(rowU (rowSn s)).toArray⟩ else ⟨#[]⟩ := rfl
  by_cases hck : checkSn s = 0
  · rw [if_pos hck] at hby
    rw [hck]
    have HBY := Sec.mk hby
    have HCK := Sec.mk hck
    clear hby hck
    go_upto_region 4 with (fail)
    have HH := Sec.mk h
    clear h
    go_cut [5] (fun v5 wc => Kd.R Kd.string 9 wc w.heap.size (fun k => k ≠ w.heap.size) v5 (rowTo s 0) ∧ Row wc w.heap.size 28 (snL s v0 v1 v2).toArray ∧ Below w.heap.size w wc)
    case rest =>
      clear hR1 hb1 hn hat hc hp hbk
      obtain ⟨hO, hRw, hb⟩ := hcut
      obtain ⟨A, c, rfl, rfl, rfl, hlst⟩ := lists_at HH.out
      have HLST := Sec.mk hlst
      have hls := sn_lists hRw
      have hix := Sec.mk (idx3 (fun i => .slice (A i) (lst s i).length (c i)))
      clear hlst
      go_wp2_with (refine wpList_load_list rfl 24 (.tmp 36) rfl w.heap.size 6 rfl _ hls ?_)
      clear hls
      go_loopw [5, 38] (fun v5 v38 wr => ∃ i : Nat, i ≤ 3 ∧ v38 = .int .i64 i ∧ Kd.R Kd.string 9 wr w.heap.size (fun k => k ≠ w.heap.size) v5 (rowTo s i) ∧ Row wr w.heap.size 28 (snL s (.slice (A 0) (lst s 0).length (c 0)) (.slice (A 1) (lst s 1).length (c 1)) (.slice (A 2) (lst s 2).length (c 2))).toArray ∧ Below w.heap.size w wr) (fun _ v38 _ => 3 - (intOf v38).toNat)
      case atStart => exact ⟨0, by omega, rfl, hO, hRw, hb⟩
      case round =>
        clear hO hRw hb
        obtain ⟨i, hi, rfl, hO, hRw, hb⟩ := hrel
        obtain ⟨w0, hw0⟩ : ∃ w0, w0 = wr := ⟨_, rfl⟩
        subst hw0
        by_cases hlt : i < 3
        · have hd : decide ((i : Int) < 3) = true := decide_eq_true (by omega)
          have hixi := hix.out i hlt
          obtain ⟨hli, hC, hln, _⟩ := HLST.out i hlt
          clear hli
          go_upto_region 9 with (fail)
          have hB0 : Lib.IsBuilder 66 5 w0.heap.size w0.heap.size (Lib.byteCells (((lst s i).take 0).flatMap ofD)) (w0.alloc (.cells #[.pointer none, .slice none 0 0] 66)) :=
            .inl ⟨Nat.le_refl _, .slice none 0 0, heap_alloc_new w0 _, by simp [Lib.byteCells]; exact World.ownsRow_nil _ _ _ _, by simp [Value.ownBlock]⟩
          have hbA := (Below.refl w0.heap.size w0).alloc (Nat.le_refl _) (.cells #[.pointer none, .slice none 0 0] 66)
          refine wp_abs (fun W2 HW => ?_)
          rw [← HW.out] at hB0 hbA
          clear HW
          have hCr := Kd.C_below hC hb
          have hln3 : (lst s i).length ≤ 1000 := Nat.le_trans (lst_le s i hlt) (check_zero s HCK.out).2.2.1
          have HO := Sec.mk hO
          have HRW := Sec.mk hRw
          have HBW := Sec.mk hb
          clear hO hRw hb hC hixi hln
          generalize hll : lst s i = ll at hB0 hCr hln3 ⊢
          have HLL := Sec.mk hll
          clear hll
          generalize A i = Ai at hCr ⊢
          go_wp2_with fail
          go_loopw [43] (fun v43 w2 => ∃ j : Nat, j ≤ ll.length ∧ v43 = .int .i64 j ∧ Lib.IsBuilder 66 5 w0.heap.size w0.heap.size (Lib.byteCells ((ll.take j).flatMap ofD)) w2 ∧ Below w0.heap.size w0 w2) (fun v43 _ => ll.length - (intOf v43).toNat)
          case atStart => exact ⟨0, by omega, rfl, hB0, hbA⟩
          case round =>
            clear hB0 hbA
            obtain ⟨j, hj, rfl, hB, hbA⟩ := hrel
            by_cases hjl : j < ll.length
            · have hdj : decide ((j : Int) < ll.length) = true := decide_eq_true (by omega)
              obtain ⟨ad, e, hx⟩ := Kd.at_string (Kd.C_below hCr hbA) (j : Int) (by omega) (by omega)
              cases e
              obtain ⟨x, hxs⟩ : ∃ x, ll[j]? = some x := ⟨_, List.getElem?_eq_getElem hjl⟩
              have hx' : wr.cell? (ad.add j) = some (.string x) := by
                have e2 : rdOf ByteArray.empty ll (j : Int) = x := by simp [rdOf, List.getD_eq_getElem?_getD, hxs]
                rw [e2] at hx
                exact hx
              have hlo := ofD_len x
              have htk : ll.take (j + 1) = ll.take j ++ [x] := by rw [List.take_add_one, hxs]; rfl
              have hfl := flat_len (ll.take j)
              have htl : (ll.take j).length = j := by rw [List.length_take]; omega
              have p1 : (0 ≤ (j : Int)) = True := eq_true (by omega)
              have q1 : ((j : Int) < ll.length) = True := eq_true (by omega)
              have HXS := Sec.mk hxs
              clear hx hxs
              go_wp2_with fail
              refine (of_any x _).mono ?_
              rintro e w3 ⟨rfl, hb3⟩
              have hB3 : Lib.IsBuilder 66 5 w0.heap.size w0.heap.size (Lib.byteCells ((ll.take j).flatMap ofD)) w3 := isBuilder_kept hB hb3
              replace hb3 := hbA.trans (hb3.mono hbA.size)
              have hbw : w0.heap.size < w3.heap.size := by rcases hB3 with h | h <;> exact h.lt
              have hR4 : Row (w3.alloc (.cells (Array.replicate 32 (.int .u8 0)) 26)) w3.heap.size 26 (Array.replicate 32 (.int .u8 0)) := Row.new w3 _ 26
              have hB4 := isBuilder_kept hB3 ((Below.refl w3.heap.size w3).alloc (Nat.le_refl _) (.cells (Array.replicate 32 (.int .u8 0)) 26))
              have hB5 := isBuilder_kept hB3 (below_row ((Below.refl w3.heap.size w3).alloc (Nat.le_refl _) (.cells (Array.replicate 32 (.int .u8 0)) 26)) (Nat.le_refl _) (Lib.byteCells (ofD x)).toArray)
              have hb5 := below_row (hb3.alloc hb3.size (.cells (Array.replicate 32 (.int .u8 0)) 26)) hb3.size (Lib.byteCells (ofD x)).toArray
              have hR5 := hR4.row (C := (Lib.byteCells (ofD x)).toArray)
              clear hB hB3 hB4 hbA hb3 hx'
              generalize ofOk x = okx
              go_upto_region 13 with (refine wpList_store_row rfl 26 (.tmp 11) (.tmp 50) rfl w3.heap.size (Lib.byteCells (ofD x)).toArray rfl rfl 26 _ hR4 (i26 _ hlo) (by simp [Lib.byteCells_length, hlo]) (byteCells_all _) ?_)
              refine wp_abs (fun W5 HW => ?_)
              have HW' : W5 = (w3.alloc (.cells (Array.replicate 32 (.int .u8 0)) 26)).setRow w3.heap.size (Lib.byteCells (ofD x)).toArray := HW.out
              rw [← HW'] at hB5 hb5 hR5
              clear HW HW' hR4
              have hal : Tryd.prog.arrayLen 26 = 32 := by kernel_rfl
              go_wp2_with fail
              refine (write_any hB5 ⟨w3.heap.size, 0, none⟩ 32 32 (Lib.byteCells (ofD x)) (by rw [Lib.byteCells_length, hlo]) (by decide) (fun k u hu => by
                have hadd : (⟨w3.heap.size, 0, none⟩ : Addr).add k = ⟨w3.heap.size, k, none⟩ := by unfold Addr.add; split <;> simp_all
                rw [hadd, hR5.at_]; exact hu) (by show w3.heap.size ≠ w0.heap.size; omega) (byteCells_one _) (by rw [Lib.byteCells_length, hfl, htl]; omega) hb5.size).mono ?_
              rintro e w6 ⟨⟨v6, rfl⟩, hB6, hb6⟩
              replace hb6 := hb5.trans hb6
              have e6 : Lib.byteCells ((ll.take j).flatMap ofD) ++ Lib.byteCells (ofD x) = Lib.byteCells ((ll.take (j + 1)).flatMap ofD) := by
                rw [htk, List.flatMap_append]; simp [Lib.byteCells]
              rw [e6] at hB6
              clear hB5 hb5 hR5 e6 hfl htl
              go_wp2_with fail
              go_roundw
              case rel => exact ⟨j + 1, by omega, by go_num, hB6, hb6⟩
              case measure => simp [intOf]; omega
            · have hdj : decide ((j : Int) < ll.length) = false := decide_eq_false (by omega)
              rw [List.take_of_length_le (by omega)] at hB
              go_wp2_with fail
              refine (Tryd.Builder_String_any w0.heap.size w0.heap.size (ll.flatMap ofD) _ hB hbA.size).mono ?_
              rintro e w7 ⟨rfl, hb7⟩
              have hb07 := hbA.trans hb7
              have hO7 := Kd.R_below HO.out hb07
              have hR7 : Row w7 w.heap.size 28 _ := HRW.out.below hb07 HRW.out.lt
              have hb9 := HBW.out.trans (hb07.mono HBW.out.size)
              have hrl : (rowTo s i).length ≤ 10 := by simp [rowTo, headSn]; omega
              have hnx := rowTo_next s i
              rw [HLL.out] at hnx
              have hdg : digs ll = ⟨(ll.flatMap ofD).toArray⟩ := rfl
              clear hB hbA hb7 hb07
              go_wp2_with ((with_reducible refine gate_builtin (b := .append) (xs := #[.tmp 55, .tmp 57]) rfl ?_); at_builtin; refine Kd.R_append Kd.string (w0 := w) w.heap.size rfl (.tmp 55) (.tmp 57) 23 9 (.string ⟨#[]⟩) 16 rfl Tryd.underlying23 info9 rfl (by decide) (by omega) u5 (rowTo s i) (digs ll) [.string (digs ll)] (fun k => k ≠ w.heap.size) (fun _ => False) rfl rfl rfl (fun _ hk => hk.elim) (fun k hk => by have := hR7.lt; omega) hO7 hb9 hb9.size (by omega) ?_)
              intro v8 w8 hO8 hb8 hg8 _
              rw [hdg] at hnx
              rw [← hnx] at hO8
              have hne : some w.heap.size ≠ u5.ownBlock := fun e => hO7.1 _ e.symm rfl
              have hR8 : Row w8 w.heap.size 28 _ := hR7.grown hg8 hne
              clear hO7 hR7 hb9 hrl hnx hdg hg8 hne
              go_wp2_with fail
              go_roundw
              case rel => exact ⟨i + 1, by omega, by go_num, hO8, hR8, hb8⟩
              case measure => simp [intOf]; omega
        · have hd : decide ((i : Int) < 3) = false := decide_eq_false (by omega)
          obtain rfl : i = 3 := by omega
          have hcv := sum_text hRw hs
          have hal : Tryd.prog.arrayLen 26 = 32 := by kernel_rfl
          have hrl : (rowTo s 3).length = 10 := by simp [rowTo, headSn]
          have hrs : rowSn s = rowTo s 3 ++ [⟨s.sum.toArray⟩] := rfl
          have hln := rowSn_len s HCK.out hs HH.out.hn HH.out.hat HH.out.hp HH.out.hb
          have hrf : num_Row.f (rowSn s) = some ⟨(rowU (rowSn s)).toArray⟩ := by unfold num_Row.f; rw [if_pos (by omega)]
          have HRF := Sec.mk hrf
          have HRS := Sec.mk hrs
          have hlw := hRw.lt
          clear hln hrf hrs hRw
          go_wp2_with ((with_reducible refine gate_builtin (b := .append) (xs := #[.tmp 60, .tmp 64]) rfl ?_); at_builtin; refine Kd.R_append Kd.string (w0 := w) w.heap.size rfl (.tmp 60) (.tmp 64) 23 9 (.string ⟨#[]⟩) 16 rfl Tryd.underlying23 info9 rfl (by decide) (by omega) u5 (rowTo s 3) (⟨s.sum.toArray⟩) [.string (⟨s.sum.toArray⟩)] (fun k => k ≠ w.heap.size) (fun _ => False) rfl rfl rfl (fun _ hk => hk.elim) (fun k hk => by omega) hO hb hb.size (by omega) ?_)
          intro v8 w8 hO8 hb8 _ _
          rw [← HRS.out] at hO8
          obtain ⟨A9, c9, rfl⟩ := Kd.R_slice hO8
          have hC9 := (Kd.R_reads' hO8).2.2
          have hc9 := (Kd.R_reads' hO8).2.1
          clear hO hcv
          go_wp2_with fail
          refine (num_Row.calls A9 c9 (rowSn s) _ _ hC9 hc9 HRF.out).mono ?_
          rintro e w9 ⟨rfl, hb9⟩
          have hbz := hb8.trans (hb9.mono hb8.size)
          go_wp2_with fail
          go_ret2
          exact ⟨by rw [HBY.out, HCK.out]; rfl, hbz⟩
    rename_i J K' hJ hMet
    obtain ⟨D, hD⟩ : ∃ D, D = w1.drew := ⟨_, rfl⟩
    have hRd : Row w1.drew w.heap.size 28 (snL s v0 v1 v2).toArray := hR1
    have hbd : Below w.heap.size w w1.drew := hb1.drew
    rw [← hD] at hRd hbd
    refine wp_region_held_drew (S := Below D.heap.size D) (by kernel_rfl) (by rw [← hD]; exact Below.refl _ _) (fun hS => ?_)
    rw [← hD] at hS ⊢
    clear hD hR1 hb1
    have RS := Sec.mk (fun w' (h : Below D.heap.size D w') => sn_cells (hRd.below h hRd.lt))
    have HL := Sec.mk (fun w' (h : Below D.heap.size D w') => hl.below (hbd.trans (h.mono hbd.size)))
    refine wpAnyH_take (i := 0) (v := .pointer (some ⟨w.heap.size, 0, none⟩)) rfl (by kernel_rfl) (by kernel_rfl) (by kernel_rfl) (fun _ _ _ h => h) (Or.inl ⟨rfl, fun w' h => by go_simp; try rfl⟩) hS ?_
    go_simp
    refine wpAnyH_take (i := 1) (v := .string s.mach) rfl (by kernel_rfl) (by kernel_rfl) (by kernel_rfl) (fun _ _ _ h => h) (Or.inl ⟨rfl, fun w' h => by have c := (RS.out w' h).k0; go_simp; try rfl⟩) hS ?_
    go_simp
    refine wpAnyH_take (i := 2) (v := .pointer (some ⟨w.heap.size, 1, none⟩)) rfl (by kernel_rfl) (by kernel_rfl) (by kernel_rfl) (fun _ _ _ h => h) (Or.inl ⟨rfl, fun w' h => by go_simp; try rfl⟩) hS ?_
    go_simp
    refine wpAnyH_take (i := 3) (v := .int .i64 s.n) rfl (by kernel_rfl) (by kernel_rfl) (by kernel_rfl) (fun _ _ _ h => h) (Or.inl ⟨rfl, fun w' h => by have c := (RS.out w' h).k1; go_simp; try rfl⟩) hS ?_
    go_simp
    refine wpAnyH_take (i := 5) (v := .pointer (some ⟨w.heap.size, 2, none⟩)) rfl (by kernel_rfl) (by kernel_rfl) (by kernel_rfl) (fun _ _ _ h => h) (Or.inl ⟨rfl, fun w' h => by go_simp; try rfl⟩) hS ?_
    go_simp
    refine wpAnyH_take (i := 6) (v := .int .i64 s.at_) rfl (by kernel_rfl) (by kernel_rfl) (by kernel_rfl) (fun _ _ _ h => h) (Or.inl ⟨rfl, fun w' h => by have c := (RS.out w' h).k2; go_simp; try rfl⟩) hS ?_
    go_simp
    refine wpAnyH_take (i := 8) (v := .pointer (some ⟨w.heap.size, 3, none⟩)) rfl (by kernel_rfl) (by kernel_rfl) (by kernel_rfl) (fun _ _ _ h => h) (Or.inl ⟨rfl, fun w' h => by go_simp; try rfl⟩) hS ?_
    go_simp
    refine wpAnyH_take (i := 9) (v := .int .u64 s.clock) rfl (by kernel_rfl) (by kernel_rfl) (by kernel_rfl) (fun _ _ _ h => h) (Or.inl ⟨rfl, fun w' h => by have c := (RS.out w' h).k3; go_simp; try rfl⟩) hS ?_
    go_simp
    refine wpAnyH_take (i := 11) (v := .pointer (some ⟨w.heap.size, 4, none⟩)) rfl (by kernel_rfl) (by kernel_rfl) (by kernel_rfl) (fun _ _ _ h => h) (Or.inl ⟨rfl, fun w' h => by go_simp; try rfl⟩) hS ?_
    go_simp
    refine wpAnyH_take (i := 12) (v := .int .i64 s.pages) rfl (by kernel_rfl) (by kernel_rfl) (by kernel_rfl) (fun _ _ _ h => h) (Or.inl ⟨rfl, fun w' h => by have c := (RS.out w' h).k4; go_simp; try rfl⟩) hS ?_
    go_simp
    refine wpAnyH_take (i := 14) (v := .pointer (some ⟨w.heap.size, 5, none⟩)) rfl (by kernel_rfl) (by kernel_rfl) (by kernel_rfl) (fun _ _ _ h => h) (Or.inl ⟨rfl, fun w' h => by go_simp; try rfl⟩) hS ?_
    go_simp
    refine wpAnyH_take (i := 15) (v := .int .i64 s.blocks) rfl (by kernel_rfl) (by kernel_rfl) (by kernel_rfl) (fun _ _ _ h => h) (Or.inl ⟨rfl, fun w' h => by have c := (RS.out w' h).k5; go_simp; try rfl⟩) hS ?_
    go_simp
    refine wpAnyH_ready (rs := [4]) (by kernel_rfl) (by simp) (AllReadyH.cons (o := _) rfl (fun K hK => ?_) AllReadyH.nil)
    go_simp
    refine (dec39_any s.n hn.1 hn.2 _ (HL.out _ hS)).mono ?_
    rintro e y4 ⟨rfl, hy⟩
    refine hK.out _ _ (hS.trans (hy.mono hS.size)) (fun hS => ?_)
    clear hK K hy
    go_simp
    refine wpAnyH_ready (rs := [7]) (by kernel_rfl) (by simp) (AllReadyH.cons (o := _) rfl (fun K hK => ?_) AllReadyH.nil)
    go_simp
    refine (dec40_any s.at_ hat.1 hat.2 _ (HL.out _ hS)).mono ?_
    rintro e y7 ⟨rfl, hy⟩
    refine hK.out _ _ (hS.trans (hy.mono hS.size)) (fun hS => ?_)
    clear hK K hy
    go_simp
    refine wpAnyH_ready (rs := [10]) (by kernel_rfl) (by simp) (AllReadyH.cons (o := _) rfl (fun K hK => ?_) AllReadyH.nil)
    go_simp
    refine (put8_any s.clock hc.1 hc.2 _).mono ?_
    rintro e y10 ⟨rfl, hy⟩
    refine hK.out _ _ (hS.trans (hy.mono hS.size)) (fun hS => ?_)
    clear hK K hy
    go_simp
    refine wpAnyH_ready (rs := [13]) (by kernel_rfl) (by simp) (AllReadyH.cons (o := _) rfl (fun K hK => ?_) AllReadyH.nil)
    go_simp
    refine (dec39_any s.pages hp.1 hp.2 _ (HL.out _ hS)).mono ?_
    rintro e y13 ⟨rfl, hy⟩
    refine hK.out _ _ (hS.trans (hy.mono hS.size)) (fun hS => ?_)
    clear hK K hy
    go_simp
    refine wpAnyH_ready (rs := [16]) (by kernel_rfl) (by simp) (AllReadyH.cons (o := _) rfl (fun K hK => ?_) AllReadyH.nil)
    go_simp
    refine (dec39_any s.blocks hbk.1 hbk.2 _ (HL.out _ hS)).mono ?_
    rintro e y16 ⟨rfl, hy⟩
    refine hK.out _ _ (hS.trans (hy.mono hS.size)) (fun hS => ?_)
    clear hK K hy
    go_simp
    refine wpAnyH_ready (rs := [17]) (by kernel_rfl) (by simp) (AllReadyH.cons (o := _) rfl (fun K hK => ?_) AllReadyH.nil)
    go_simp
    have hGs := hS.size
    refine hK.out _ _ (hS.alloc hS.size _) (fun hS => ?_)
    clear hK K
    go_simp
    refine wpAnyH_take (i := 18) (v := .slice (some ⟨y16.heap.size, 0, none⟩) 7 7) rfl (by kernel_rfl) (by kernel_rfl) (by kernel_rfl) (fun _ _ _ h => h) (Or.inl ⟨rfl, fun w' h => by go_simp; try rfl⟩) hS ?_
    go_simp
    refine wpAnyH_done (by kernel_rfl) ?_ _
    refine hMet _ _ (Met.intro (hJ _ _ ?_))
    (repeat apply Exists.intro)
    refine ⟨?_, rfl⟩
    refine ⟨R_new y16 w.heap.size (Nat.lt_of_lt_of_le hRd.lt hGs) (rowTo s 0) (by simp [rowTo, headSn]), hRd.below hS hRd.lt, hbd.trans (hS.mono hbd.size)⟩

  · rw [if_neg hck] at hby
    have HBY := Sec.mk hby
    have HCK := Sec.mk hck
    clear hby hck
    generalize hcz : checkSn s = z at HCK ⊢
    have HCZ := Sec.mk hcz
    clear hcz
    have hz : (z != 0) = true := bne_iff_ne.2 HCK.out
    have hz2 : ¬ z = 0 := HCK.out
    go_wp2_with fail
    go_ret2
    have e9 : checkSn s = z := HCZ.out
    exact ⟨by rw [HBY.out, e9]; rfl, hb1⟩
end Go.Proofs.YtokcmaehojljdaaDoor
