/- Lists of texts, and lists of such lists, that came in: opened. -/
import Derived.Test.YtaimjdfeijgbmaaPLawx0
import Derived.SliceStrings
import Derived.Deep.Slices
import Derived.SizedLaws
namespace Go.Proofs.Ytaimjdfeijgbmaa
open Go.ChangeShapes Go.WideShapes Go.Deep Go.RowKit Go.Proofs.YtaimjdfeijgbmaaW.PrintWords Go.Proofs.YtaimjdfeijgbmaaW.PrintLast Go.Proofs.YtaimjdfeijgbmaaW.PrintMore

theorem cells9 : Try.prog.cellsOf 9 = 1 := by kernel_rfl
theorem cells22 : Try.prog.cellsOf 22 = 1 := by kernel_rfl
theorem bytes9 : Try.prog.bytesOf 9 = 16 := by kernel_rfl
theorem bytes22 : Try.prog.bytesOf 22 = 24 := by kernel_rfl
theorem weightsAll_mem {H : Type} {P : Program} {e : TypeId} : ∀ {l : List (DataW H)} {d : DataW H}, d ∈ l → ∀ n ∈ d.weights P e, n ∈ DataW.weightsAll P e l
  | d' :: r, d, hd, n, hn => by
    simp only [DataW.weightsAll, List.mem_append]
    rcases List.mem_cons.1 hd with rfl | h
    · exact Or.inl hn
    · exact Or.inr (weightsAll_mem h n hn)
/-- A list of texts, as it lies in the world. -/
def TextsAt (w : World) (v : Value) (l : List ByteArray) : Prop := ∃ A c, v = .slice A l.length c ∧ l.length ≤ c ∧ Kd.C Kd.string w A l.length l ∧ l.length ≤ 140737488351232 ∧ ∀ s ∈ l, s.size ≤ 140737488351232
theorem open_texts {H : Type} {enc : TypeId × Value → H} {w : World} {fuel : Nat} {v : Value} {x : DataW H × List MemPlace}
    (h : DataW.trod enc Try.prog w 0 (fun _ => true) true fuel 22 [v] = some x) (hsz : ∀ n ∈ x.1.weights Try.prog 22, n ≤ reachBytes) : ∃ l, TextsAt w v l := by
  rcases open_strings Try.underlying22 Try.underlying9 cells9 h with ⟨hcs, hx⟩ | ⟨a, len, cap, ss, hcs, _, hl, hm, hz, hx, hcell, _⟩
  · simp only [List.cons.injEq, and_true] at hcs
    subst hcs
    exact ⟨[], none, 0, rfl, Nat.le_refl _, Kd.C_nil _ _, by simp, by simp⟩
  · simp only [List.cons.injEq, and_true] at hcs
    subst hcs hx
    simp only [if_true] at hz
    have hwt : ∀ n, n = (strs (H := H) (ss.take len)).length + (strs (H := H) (ss.drop len)).length ∨ (∃ s ∈ ss.take len, n = s.size) → n ≤ reachBytes := by
      rintro n (rfl | ⟨s, hs, rfl⟩)
      · have := hsz (((strs (H := H) (ss.take len)).length + (strs (H := H) (ss.drop len)).length) * Try.prog.bytesOf 9) (by simp [DataW.weights, Try.underlying22])
        rw [bytes9] at this
        omega
      · refine hsz _ ?_
        simp only [DataW.weights, Try.underlying22, List.mem_cons, List.mem_append]
        refine .inr (.inl (weightsAll_mem (d := .lit (.string s.data.toList)) ?_ _ (by simp [DataW.weights])))
        simp only [strs, List.mem_map]
        exact ⟨s, hs, rfl⟩
    have hlen : (ss.take len).length = len := by rw [List.length_take]; omega
    have hn := hwt _ (.inl rfl)
    simp only [strs, List.length_map, List.length_take, List.length_drop] at hn
    have hr : reachBytes = 140737488351232 := rfl
    rw [hr] at hn hwt
    refine ⟨ss.take len, some a, cap, by rw [hlen], by rw [hlen]; exact hl, ?_, by rw [hlen]; omega, fun s hs => hwt _ (.inr ⟨s, hs, rfl⟩)⟩
    rw [hlen]
    refine Kd.C_of_reads (d := ByteArray.empty) ⟨hlen, by omega, fun _ => ⟨a, rfl, fun j hj => ?_⟩⟩
    rw [hcell j (by omega)]
    have : (ss.take len).getD j ByteArray.empty = ss.getD j ByteArray.empty := by simp [List.getD_eq_getElem?_getD, List.getElem?_take, hj]
    rw [this]
/-- A list of lists of texts. -/
def RowsAt (w : World) (v : Value) (l : List (List ByteArray)) : Prop := ∃ A c, v = .slice A l.length c ∧ l.length ≤ c ∧ Kd.C (Kd.slice 9 Kd.string) w A l.length l ∧ l.length ≤ 140737488351232 ∧
  ∀ r ∈ l, r.length ≤ 140737488351232 ∧ ∀ s ∈ r, s.size ≤ 140737488351232
theorem open_rows {H : Type} {enc : TypeId × Value → H} {w : World} {fuel : Nat} {v : Value} {x : DataW H × List MemPlace}
    (h : DataW.trod enc Try.prog w 0 (fun _ => true) true fuel 34 [v] = some x) (hsz : ∀ n ∈ x.1.weights Try.prog 34, n ≤ reachBytes) : ∃ l, RowsAt w v l := by
  rcases open_slice1 Try.underlying34 cells22 h with ⟨hcs, hx⟩ | ⟨a, len, cap, m, n, V, D, Pl, hcs, _, hl, hm, hmm, hx, hc⟩
  · simp only [List.cons.injEq, and_true] at hcs
    subst hcs
    exact ⟨[], none, 0, rfl, Nat.le_refl _, Kd.C_nil _ _, by simp, by simp⟩
  · simp only [List.cons.injEq, and_true] at hcs
    subst hcs hx
    simp only [if_true] at hmm
    subst hmm
    have h1 := hsz ((((List.range len).map D).length + ((List.range (m - len)).map fun j => D (len + j)).length) * Try.prog.bytesOf 22) (by simp [DataW.weights, Try.underlying34])
    have hr : reachBytes = 140737488351232 := rfl
    simp only [List.length_map, List.length_range, bytes22, hr] at h1
    have each : ∀ i, i < len → ∃ r, TextsAt w (V i) r := fun i hi => open_texts (hc i (by omega)).2 (fun n hn => hsz n (by
      simp only [DataW.weights, Try.underlying34, List.mem_cons, List.mem_append]
      refine .inr (.inl (weightsAll_mem (d := D i) ?_ _ hn))
      simp only [List.mem_map, List.mem_range]
      exact ⟨i, hi, rfl⟩))
    obtain ⟨f, hf⟩ := choose_lt each
    have hlen : ((List.range len).map f).length = len := by simp
    refine ⟨(List.range len).map f, some a, m, by rw [hlen], by rw [hlen]; exact hl, ?_, by rw [hlen]; omega, fun r hr => ?_⟩
    · refine ⟨by simp, by rw [hlen]; omega, fun _ => ⟨a, rfl, fun j p hj => ?_⟩⟩
      have hj' : j < len := by
        have := (List.getElem?_eq_some_iff.1 hj).1
        simpa using this
      have hp : p = f j := by
        rw [List.getElem?_map, List.getElem?_range hj'] at hj
        exact (Option.some.inj hj).symm
      subst hp
      obtain ⟨A, c, hv, hcc, hC, _⟩ := hf j hj'
      refine ⟨[V j], rfl, ⟨A, c, by rw [hv], hcc, hC⟩, fun i u hu => ?_⟩
      have hi0 : i = 0 := by
        have := (List.getElem?_eq_some_iff.1 hu).1
        simpa using this
      subst hi0
      simp only [List.getElem?_cons_zero, Option.some.injEq] at hu
      subst hu
      rw [show j * (Kd.slice 9 Kd.string).sz + 0 = j from by show j * 1 + 0 = j; omega]
      exact (hc j (by omega)).1
    · simp only [List.mem_map, List.mem_range] at hr
      obtain ⟨j, hj, rfl⟩ := hr
      obtain ⟨_, _, _, _, _, h1, h2⟩ := hf j hj
      exact ⟨h1, h2⟩
end Go.Proofs.Ytaimjdfeijgbmaa
