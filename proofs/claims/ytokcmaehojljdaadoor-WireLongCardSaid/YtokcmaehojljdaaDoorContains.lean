/- slices.ContainsFunc over the closure of manifest.Check: is there a text that is no digest's. -/
import Derived.Test.YtokcmaehojljdaaDoorHashOf
namespace Go.Proofs.YtokcmaehojljdaaDoor
open Go.RowKit Go.Shelf Go.Proofs.YtokcmaehojljdaaDoorW.PrintWords Go.Proofs.YtokcmaehojljdaaDoorW.PrintLast Go.Proofs.YtokcmaehojljdaaDoorW.PrintMore

theorem ofD_len (s : ByteArray) : (ofD s).length = 32 := by
  unfold ofD
  split
  · exact dgs_len _ _ (Nat.le_refl _)
  · simp
set_option maxHeartbeats 1000000 in
set_option maxRecDepth 100000 in
theorem bad_any (s : ByteArray) (w : World) : Calls Tryd.prog 49 #[.string s] w fun e w' => e = .returned (.bool (!ofOk s)) ∧ Below w.heap.size w w' := by
  go_enter Tryd.func49, Tryd.ntmps49
  go_wp2_with fail
  refine (of_any s _).mono ?_
  rintro e w1 ⟨rfl, hb1⟩
  have hb2 := hb1.alloc hb1.size (.cells (Array.replicate 32 (.int .u8 0)) 26)
  have hR : Row (w1.alloc (.cells (Array.replicate 32 (.int .u8 0)) 26)) w1.heap.size 26 (Array.replicate 32 (.int .u8 0)) := Row.new w1 _ 26
  have hl := ofD_len s
  have hb3 := below_row hb2 hb1.size (Lib.byteCells (ofD s)).toArray
  generalize hok : ofOk s = ok
  go_wp2_with (refine wpList_store_row rfl 26 (.tmp 3) (.tmp 8) rfl w1.heap.size (Lib.byteCells (ofD s)).toArray rfl rfl 26 _ hR (i26 _ hl) (by simp [Lib.byteCells_length, hl]) (byteCells_all _) ?_)
  go_ret
  exact ⟨(show Ending.returned (Value.bool !ok) = _ by rw [hok]), hb3⟩
set_option maxHeartbeats 1000000 in
set_option maxRecDepth 100000 in
theorem index_any (A : Option Addr) (c : Nat) (l : List ByteArray) (w : World) (hC : Kd.C Kd.string w A l.length l) (hn : l.length ≤ 140737488351232) :
    Calls Tryd.prog 68 #[.slice A l.length c, .func (.func 49) #[] #[]] w fun e w' => (∃ r : Int, e = .returned (.int .i64 r) ∧ (0 ≤ r ↔ ∃ s ∈ l, ofOk s = false)) ∧ Below w.heap.size w w' := by
  have hb0 := Below.refl w.heap.size w
  go_enter Tryd.func68, Tryd.ntmps68
  go_wp2_with fail
  go_loopw [8] (fun v8 wr => ∃ i : Nat, i ≤ l.length ∧ v8 = .int .i64 i ∧ Below w.heap.size w wr ∧ ∀ s ∈ l.take i, ofOk s = true) (fun v8 _ => l.length - (intOf v8).toNat)
  case atStart => exact ⟨0, by omega, rfl, hb0, by simp⟩
  case round =>
    clear hb0
    obtain ⟨i, hi, rfl, hb, hgood⟩ := hrel
    by_cases hlt : i < l.length
    · have hd : decide ((i : Int) < l.length) = true := decide_eq_true (by omega)
      obtain ⟨ad, e, hx⟩ := Kd.at_string (Kd.C_below hC hb) (i : Int) (by omega) (by omega)
      cases e
      obtain ⟨s, hs⟩ : ∃ s, l[i]? = some s := ⟨_, List.getElem?_eq_getElem hlt⟩
      have hx' : wr.cell? (ad.add i) = some (.string s) := by
        have e2 : rdOf ByteArray.empty l (i : Int) = s := by simp [rdOf, List.getD_eq_getElem?_getD, hs]
        rw [e2] at hx
        exact hx
      have ht : l.take (i + 1) = l.take i ++ [s] := by rw [List.take_add_one, hs]; rfl
      have hmem : s ∈ l := List.mem_of_getElem? hs
      have p1 : (0 ≤ (i : Int)) = True := eq_true (by omega)
      have q1 : ((i : Int) < l.length) = True := eq_true (by omega)
      clear hx
      go_wp2_with fail
      refine (bad_any s _).mono ?_
      rintro e w1 ⟨rfl, hb1⟩
      replace hb1 := hb.trans (hb1.mono hb.size)
      cases hok : ofOk s with
      | false =>
        go_wp2_with fail
        go_ret
        exact ⟨⟨_, rfl, fun _ => ⟨s, hmem, hok⟩, fun _ => by omega⟩, hb1⟩
      | true =>
        go_wp2_with fail
        go_roundw
        case rel =>
          refine ⟨i + 1, by omega, by go_num, hb1, fun x hx => ?_⟩
          rw [ht] at hx
          rcases List.mem_append.1 hx with hx | hx
          · exact hgood x hx
          · rw [List.mem_singleton.1 hx]; exact hok
        case measure => simp [intOf]; omega
    · have hd : decide ((i : Int) < l.length) = false := decide_eq_false (by omega)
      rw [List.take_of_length_le (by omega)] at hgood
      go_wp2_with fail
      go_ret
      refine ⟨⟨_, rfl, fun h => absurd h (by decide), fun ⟨s, hs, he⟩ => ?_⟩, hb⟩
      rw [hgood s hs] at he; cases he
def anyBad (l : List ByteArray) : Bool := l.any fun s => !ofOk s
theorem anyBad_iff (l : List ByteArray) : anyBad l = true ↔ ∃ s ∈ l, ofOk s = false := by simp [anyBad]
set_option maxRecDepth 100000 in
theorem contains_any (A : Option Addr) (c : Nat) (l : List ByteArray) (w : World) (hC : Kd.C Kd.string w A l.length l) (hn : l.length ≤ 140737488351232) :
    Calls Tryd.prog 48 #[.slice A l.length c, .func (.func 49) #[] #[]] w fun e w' => e = .returned (.bool (anyBad l)) ∧ Below w.heap.size w w' := by
  go_enter Tryd.func48, Tryd.ntmps48
  go_wp2_with fail
  refine (index_any A c l w hC hn).mono ?_
  rintro e w1 ⟨⟨r, rfl, hr⟩, hb1⟩
  have hd : decide (0 ≤ r) = anyBad l := by
    by_cases h : 0 ≤ r
    · rw [decide_eq_true h, eq_comm, anyBad_iff]; exact hr.1 h
    · rw [decide_eq_false h, eq_comm, ← Bool.not_eq_true, anyBad_iff]; exact fun e => h (hr.2 e)
  clear hr
  go_wp2_with fail
  go_ret
  exact ⟨rfl, hb1⟩
end Go.Proofs.YtokcmaehojljdaaDoor
