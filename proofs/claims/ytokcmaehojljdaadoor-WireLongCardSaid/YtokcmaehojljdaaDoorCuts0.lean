/- Bytes cut short, or with more behind them, are no row of two texts. -/
import Derived.Test.YtokcmaehojljdaaDoorTexts
import Derived.Test.YtokcmaehojljdaaDoorPureInj
namespace Go.Proofs.YtokcmaehojljdaaDoor
open Go.RowKit Go.Proofs.YtokcmaehojljdaaDoorW.PrintWords Go.Proofs.YtokcmaehojljdaaDoorW.PrintLast Go.Proofs.YtokcmaehojljdaaDoorW.PrintMore

theorem row_app (a x : ByteArray) (X Y : List UInt8) (h : lenU a.size ++ (a.data.toList ++ X) = lenU x.size ++ (x.data.toList ++ Y)) : X = Y := by
  obtain ⟨h1, h2⟩ := lenU_inj a.size x.size _ _ h
  exact (List.append_inj h2 (by simpa using h1)).2
theorem two_cut (a b x y : ByteArray) (R : List UInt8) (h : rowU [a, b] ++ R = rowU [x, y]) : R = [] := by
  have e1 : rowU [a, b] ++ R = lenU a.size ++ (a.data.toList ++ (lenU b.size ++ (b.data.toList ++ R))) := by simp [rowU]
  have e2 : rowU [x, y] = lenU x.size ++ (x.data.toList ++ (lenU y.size ++ (y.data.toList ++ []))) := by simp [rowU]
  rw [e1, e2] at h
  exact row_app _ _ _ _ (row_app _ _ _ _ h)
/-- The texts of bytes, or the error. -/
def ofRow (s : ByteArray) : List ByteArray × Nat := tl (s.size + 1) s.data.toList []
theorem ofRow_back (s : ByteArray) (r : List ByteArray) (h : ofRow s = (r, 0)) : rowU r = s.data.toList := by
  have := tl_back (s.size + 1) s.data.toList [] r (by simp) h
  simpa [rowU] using this
/-- No row of two texts. -/
def Not2 (s : ByteArray) : Prop := (ofRow s).2 ≠ 0 ∨ (ofRow s).1.length ≠ 2
theorem not2_of (s : ByteArray) (h : ∀ x y, rowU [x, y] ≠ s.data.toList) : Not2 s := by
  by_cases h0 : (ofRow s).2 = 0
  · refine .inr (fun h2 => ?_)
    cases e : (ofRow s).1 with
    | nil => rw [e] at h2; exact absurd h2 (by decide)
    | cons x l =>
      cases l with
      | nil => rw [e] at h2; exact absurd h2 (by simp)
      | cons y l =>
        cases l with
        | nil => exact h x y (ofRow_back s [x, y] (Prod.ext e h0))
        | cons z l => rw [e] at h2; simp at h2
  · exact .inl h0
theorem not2_short (a b s : ByteArray) (R : List UInt8) (hR : R ≠ []) (h : s.data.toList ++ R = rowU [a, b]) : Not2 s :=
  not2_of s fun x y e => hR (two_cut x y a b R (by rw [e, h]))
theorem not2_more (a b s : ByteArray) (R : List UInt8) (hR : R ≠ []) (h : s.data.toList = rowU [a, b] ++ R) : Not2 s :=
  not2_of s fun x y e => hR (two_cut a b x y R (by rw [e, h]))
/-- What is written is read. -/
theorem ofRow_row (l : List ByteArray) (s : ByteArray) (h : s.data.toList = rowU l) (hs : ∀ x ∈ l, x.size < 268435456) : ofRow s = (l, 0) := by
  have hc := rowU_count l
  have hsz : s.size = (rowU l).length := by rw [← h]; simp
  have := tl_row l (s.size + 1) [] [] (by omega) hs
  unfold ofRow
  rw [h]
  rw [List.append_nil] at this
  rw [this]
  obtain ⟨d, hd⟩ : ∃ d, s.size + 1 - l.length = d + 1 := ⟨s.size - l.length, by omega⟩
  rw [hd, tl, List.nil_append]
end Go.Proofs.YtokcmaehojljdaaDoor
