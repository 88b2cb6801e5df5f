/- num.Dec and num.Int: what they compute, and their walks, out of the library's contracts; the variables that they read. -/
import Derived.Test.YtokcmaehojljdaaDoorShelf
import Derived.Test.YtokcmaehojljdaaDoorPWirex0
import Derived.Lib.LaidTab
namespace Go.Proofs.YtokcmaehojljdaaDoor
open Go.RowKit Go.Sort Go.Proofs.YtokcmaehojljdaaDoorW.PrintWords Go.Proofs.YtokcmaehojljdaaDoorW.PrintLast Go.Proofs.YtokcmaehojljdaaDoorW.PrintMore

/-- What start-up has laid: the powers of ten. -/
structure Laid (w : World) : Prop where
  tab : Lib.TabIs Tryd.prog w "internal/strconv.uint64pow10" .u64 Lib.pow10Tab
/-- .. and the two errors. -/
structure LaidE (w : World) : Prop extends Laid w where
  syn : ∃ ev, w.cell? ⟨1, 0, none⟩ = some ev ∧ (ev = .nilIface ∨ ∃ te pe, ev = .iface te pe)
  rng : ∃ ev, w.cell? ⟨2, 0, none⟩ = some ev ∧ (ev = .nilIface ∨ ∃ te pe, ev = .iface te pe)
theorem cell_lt {w : World} {a : Addr} {v : Value} (h : w.cell? a = some v) : a.block < w.heap.size := by
  rcases Nat.lt_or_ge a.block w.heap.size with h' | h'
  · exact h'
  · unfold World.cell? at h
    rw [Array.getElem?_eq_none h'] at h
    simp at h
theorem gTab : Tryd.prog.globalNamed "internal/strconv.uint64pow10" = some 0 := by kernel_rfl
theorem Laid.pos {w : World} (h : Laid w) : 0 < w.heap.size := by
  have ht := h.tab
  unfold Lib.TabIs World.var? at ht
  rw [gTab, Option.bind_some] at ht
  rcases Nat.lt_or_ge 0 w.heap.size with h' | h'
  · exact h'
  · rw [Array.getElem?_eq_none h'] at ht
    simp at ht
theorem Laid.below {w w' : World} (h : Laid w) (hb : Below w.heap.size w w') : Laid w' := by
  refine ⟨?_⟩
  have hlt := h.pos
  have ht := h.tab
  unfold Lib.TabIs World.var? at ht ⊢
  rw [gTab, Option.bind_some] at ht ⊢
  rw [hb.block 0 hlt]
  exact ht
theorem LaidE.below {w w' : World} (h : LaidE w) (hb : Below w.heap.size w w') : LaidE w' := by
  refine ⟨h.toLaid.below hb, ?_, ?_⟩
  · obtain ⟨ev, h1, h2⟩ := h.syn
    exact ⟨ev, (hb.cell (cell_lt h1)).trans h1, h2⟩
  · obtain ⟨ev, h1, h2⟩ := h.rng
    exact ⟨ev, (hb.cell (cell_lt h1)).trans h1, h2⟩
theorem below_grow' (w : World) (k : Nat) (os : Array Obj) : Below w.heap.size w (grow (w.drewN k) os) := by
  have h1 : Below w.heap.size w (w.drewN k) := pw_below_drewN (Below.refl _ _) k
  have e : (w.drewN k).heap = w.heap := rfl
  refine h1.trans ⟨rfl, rfl, rfl, ?_, fun i hi => ?_⟩
  · show (w.drewN k).heap.size ≤ ((w.drewN k).heap ++ os).size
    rw [Array.size_append]; omega
  · show ((w.drewN k).heap ++ os)[i]? = (w.drewN k).heap[i]?
    rw [Array.getElem?_append_left (by rw [e]; exact hi)]

/-- num.Dec -/
def dec (n : Int) : ByteArray := ⟨(Lib.itoa n).toArray⟩
set_option maxRecDepth 100000 in
theorem dec_any (n : Int) (h0 : -9223372036854775808 ≤ n) (h1 : n ≤ 9223372036854775807) (w : World) (h : Laid w) : Calls Tryd.prog 19 #[.int .i64 n] w fun e w' => e = .returned (.string (dec n)) ∧ Below w.heap.size w w' := by
  go_enter Tryd.func19, Tryd.ntmps19
  go_wp2_with fail
  refine (Tryd.strconv_FormatInt_10 n h0 h1 _ h.tab).mono ?_
  rintro e w' ⟨rfl, k, os, rfl⟩
  have hb := below_grow' w k os
  go_wp2_with fail
  go_ret
  exact ⟨rfl, hb⟩
/-- num.Int -/
def int (s : ByteArray) : Int × Bool := match Lib.parseIntB 64 s.data.toList with
  | .ok v => if Lib.itoa v = s.data.toList then (v, true) else (0, false)
  | _ => (0, false)
theorem parse_range (s : ByteArray) (v : Int) (h : Lib.parseIntB 64 s.data.toList = .ok v) : -9223372036854775808 ≤ v ∧ v ≤ 9223372036854775807 := by
  generalize s.data.toList = l at h
  cases l with
  | nil => rw [Lib.parseIntB] at h; cases h
  | cons c r =>
    rw [Lib.parseIntB] at h
    split at h
    · cases h
    · cases h
    · split at h
      · cases h
      · split at h
        · cases h
        · injection h with h
          subst h
          split <;> omega
set_option maxRecDepth 100000 in
theorem num_end (x : Lib.NumEnd Int) : (∃ v, x = .ok v) ∨ x = Lib.parseIntB 64 [] ∨ x = .range := by
  cases x
  · exact .inl ⟨_, rfl⟩
  · exact .inr (.inl rfl)
  · exact .inr (.inr rfl)
theorem int_any (s : ByteArray) (hs : s.size ≤ 140737488351232) (w : World) (h : LaidE w) : Calls Tryd.prog 30 #[.string s] w fun e w' => e = .returned (.tuple #[.int .i64 (int s).1, .bool (int s).2]) ∧ Below w.heap.size w w' := by
  have hi : int s = match Lib.parseIntB 64 s.data.toList with
    | .ok v => if Lib.itoa v = s.data.toList then (v, true) else (0, false)
    | _ => (0, false) := rfl
  go_enter Tryd.func30, Tryd.ntmps30
  go_wp2_with fail
  rcases num_end (Lib.parseIntB 64 s.data.toList) with ⟨v, hp⟩ | hp | hp
  ·
    rw [hp] at hi
    simp only [] at hi
    obtain ⟨v0, v1⟩ := parse_range s v hp
    refine (Tryd.strconv_ParseInt_10_at64_ok s (by omega) v hp _).mono ?_
    rintro e w' ⟨rfl, hw'⟩
    have hb : Below w.heap.size w w' := by
      rcases hw' with rfl | ⟨t, rfl⟩
      · exact Below.refl _ _
      · exact bytes_below (Below.refl _ _) (Nat.le_refl _) 5 t
    clear hw'
    have hl := h.below hb
    go_wp2_with fail
    refine (dec_any v v0 v1 _ hl.toLaid).mono ?_
    rintro e w2 ⟨rfl, hb2⟩
    replace hb2 := hb.trans (hb2.mono hb.size)
    by_cases hd : Lib.itoa v = s.data.toList
    · rw [if_pos hd] at hi
      have hd' : dec v = s := by
        unfold dec
        rw [hd]
      rw [hd']
      have c1 : (s.toList != s.toList) = false := bne_self_eq_false _
      go_wp2_with fail
      go_ret2
      rw [hi]
      exact ⟨rfl, hb2⟩
    · rw [if_neg hd] at hi
      have c1 : ((dec v).toList != s.toList) = true := by
        rw [bne_iff_ne, ByteArray.toList_eq, ByteArray.toList_eq]
        exact hd
      have c2 : ((dec v).toList == s.toList) = false := by
        rw [beq_eq_false_iff_ne, ByteArray.toList_eq, ByteArray.toList_eq]
        exact hd
      go_wp2_with fail
      go_ret2
      rw [hi]
      exact ⟨rfl, hb2⟩
  ·
    rw [hp] at hi
    obtain ⟨ev, h1, h2⟩ := h.syn
    refine (Tryd.strconv_ParseInt_10_at64_syntax s (by omega) hp ev _ h1 h2).mono ?_
    rintro e w' ⟨N, rfl, hN, _, hb⟩
    go_wp2_with fail
    go_ret2
    rw [hi]
    exact ⟨rfl, hb⟩
  ·
    rw [hp] at hi
    obtain ⟨ev, h1, h2⟩ := h.rng
    refine (Tryd.strconv_ParseInt_10_at64_range s (by omega) hp ev _ h1 h2).mono ?_
    rintro e w' ⟨N, rfl, hN, _, hb⟩
    go_wp2_with fail
    go_ret2
    rw [hi]
    exact ⟨rfl, hb⟩
end Go.Proofs.YtokcmaehojljdaaDoor
