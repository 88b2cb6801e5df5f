/- Lists of texts, and lists of such lists, that came in: opened. -/
import Derived.Test.YtokcmaehojljdaaDoorQuiet
import Derived.SliceStrings
import Derived.Deep.Slices
import Derived.SizedLaws
namespace Go.Proofs.YtokcmaehojljdaaDoor
open Go.ChangeShapes Go.WideShapes Go.Deep Go.RowKit Go.Proofs.YtokcmaehojljdaaDoorW.PrintWords Go.Proofs.YtokcmaehojljdaaDoorW.PrintLast Go.Proofs.YtokcmaehojljdaaDoorW.PrintMore

theorem cells9 : Tryd.prog.cellsOf 9 = 1 := by kernel_rfl
theorem cells23 : Tryd.prog.cellsOf 23 = 1 := by kernel_rfl
theorem bytes9 : Tryd.prog.bytesOf 9 = 16 := by kernel_rfl
theorem bytes23 : Tryd.prog.bytesOf 23 = 24 := by kernel_rfl
theorem weightsAll_mem {H : Type} {P : Program} {e : TypeId} : ∀ {l : List (DataW H)} {d : DataW H}, d ∈ l → ∀ n ∈ d.weights P e, n ∈ DataW.weightsAll P e l
  | d' :: r, d, hd, n, hn => by
    simp only [DataW.weightsAll, List.mem_append]
    rcases List.mem_cons.1 hd with rfl | h
    · exact Or.inl hn
    · exact Or.inr (weightsAll_mem h n hn)
/-- A list of texts, as it lies in the world. -/
def TextsAt (w : World) (v : Value) (l : List ByteArray) : Prop := ∃ A c, v = .slice A l.length c ∧ l.length ≤ c ∧ Kd.C Kd.string w A l.length l ∧ l.length ≤ 140737488351232 ∧ ∀ s ∈ l, s.size ≤ 140737488351232
theorem open_texts {H : Type} {enc : TypeId × Value → H} {w : World} {fuel : Nat} {v : Value} {x : DataW H × List MemPlace}
    (h : DataW.trod enc Tryd.prog w 0 (fun _ => true) true fuel 23 [v] = some x) (hsz : ∀ n ∈ x.1.weights Tryd.prog 23, n ≤ reachBytes) : ∃ l, TextsAt w v l := by
  rcases open_strings Tryd.underlying23 Tryd.underlying9 cells9 h with ⟨hcs, hx⟩ | ⟨a, len, cap, ss, hcs, _, hl, hm, hz, hx, hcell, _⟩
  · simp only [List.cons.injEq, and_true] at hcs
    subst hcs
    exact ⟨[], none, 0, rfl, Nat.le_refl _, Kd.C_nil _ _, by simp, by simp⟩
  · simp only [List.cons.injEq, and_true] at hcs
    subst hcs hx
    simp only [if_true] at hz
    have hwt : ∀ n, n = (strs (H := H) (ss.take len)).length + (strs (H := H) (ss.drop len)).length ∨ (∃ s ∈ ss.take len, n = s.size) → n ≤ reachBytes := by
      rintro n (rfl | ⟨s, hs, rfl⟩)
      · have := hsz (((strs (H := H) (ss.take len)).length + (strs (H := H) (ss.drop len)).length) * Tryd.prog.bytesOf 9) (by simp [DataW.weights, Tryd.underlying23])
        rw [bytes9] at this
        omega
      · refine hsz _ ?_
        simp only [DataW.weights, Tryd.underlying23, List.mem_cons, List.mem_append]
        refine .inr (.inl (weightsAll_mem (d := .lit (.string s.data.toList)) ?_ _ (by simp [DataW.weights])))
        simp only [strs, List.mem_map]
        exact ⟨s, hs, rfl⟩
    have hlen : (ss.take len).length = len := by rw [List.length_take]; omega
    have hn := hwt _ (.inl rfl)
    simp only [strs, List.length_map, List.length_take, List.length_drop] at hn
    have hr : reachBytes = 140737488351232 := rfl
    rw [hr] at hn hwt
    refine ⟨ss.take len, some a, cap, by rw [hlen], by rw [hlen]; exact hl, ?_, by rw [hlen]; omega, fun s hs => hwt _ (.inr ⟨s, hs, rfl⟩)⟩
    rw [hlen]
    refine Kd.C_of_reads (d := ByteArray.empty) ⟨hlen, by omega, fun _ => ⟨a, rfl, fun j hj => ?_⟩⟩
    rw [hcell j (by omega)]
    have : (ss.take len).getD j ByteArray.empty = ss.getD j ByteArray.empty := by simp [List.getD_eq_getElem?_getD, hj]
    rw [this]
end Go.Proofs.YtokcmaehojljdaaDoor
