/- Arguments that are arrays of bytes, or hold such ones, are opened. -/
import Derived.Test.YtgdjapcpgkflbaaK
import Derived.WalkKit
import Derived.ProofKit
import Derived.OpenShut
namespace Go.Proofs.Ytgdjapcpgkflbaa
open Go.ChangeShapes Go.WideShapes Go.ChangeAt Go.RowKit
open Cc (g)

section
variable {H : Type} {enc : TypeId × Value → H} {P : Program} {w : World} {base : Nat} {spare : Nat → Bool} {held : Bool}

theorem okWide_array {n : Nat} {e t : TypeId} {r : Reach} {b : Nat} {v : Value} (ht : P.underlying t = some (.array n e)) (h : Value.okWide P w r b t v) : ∃ cs, v = .agg cs ∧ cs.size = P.cellsOf t := by
  unfold Value.okWide at h
  rw [ht] at h
  obtain ⟨cs, h1, h2, _⟩ := h
  exact ⟨cs, h1, h2⟩

def natOf : Option Value → Nat
  | some (.int _ y) => y.toNat
  | _ => 0
theorem trod_u8s {n : Nat} {t e : TypeId} {fuel : Nat} {cs : List Value} {x : DataW H × List MemPlace} (ht : P.underlying t = some (.array n e)) (he : P.underlying e = some (.int .u8)) (hc : P.cellsOf e = 1)
    (hct : P.cellsOf t = n) (h : DataW.trod enc P w base spare held fuel t cs = some x) : ∃ L : List Nat, cs.toArray = vs .u8 L ∧ L.length = n ∧ (∀ y ∈ L, y < 256) ∧ x.2 = [] := by
  obtain ⟨xs, m, rfl, rfl, hl, hx, hi⟩ := DataW.trod_array ht h
  rw [hct] at hl
  rw [hc] at hi
  have hone : ∀ i, i < n → ∃ y : Nat, cs[i]? = some (.int .u8 (y : Int)) ∧ y < 256 ∧ ∃ z, xs[i]? = some z ∧ z.2 = [] := by
    intro i h1
    have h2 := hi i h1
    have h3 : xs[i]? = some xs[i] := List.getElem?_eq_getElem (by omega)
    rw [h3] at h2
    obtain ⟨k, hk, hz, hw⟩ := DataW.trod_int he h2
    have hb := bounds_u8 hw
    refine ⟨k.toNat, ?_, by omega, _, h3, by rw [hz]⟩
    rw [Nat.mul_one] at hk
    have : cs[i]? = ((cs.drop i).take 1)[0]? := by simp
    rw [this, hk]
    simp
    omega
  refine ⟨(List.range n).map fun i => natOf cs[i]?, ?_, by simp, ?_, ?_⟩
  · rw [← Array.toList_inj]
    apply List.ext_getElem?
    intro i
    by_cases h1 : i < n
    · obtain ⟨y, h2, h3, _⟩ := hone i h1
      simp [vs, h1, h2, natOf]
    · have : cs[i]? = none := List.getElem?_eq_none (by omega)
      simp [vs, h1, this]
  · intro y hy
    simp only [List.mem_map, List.mem_range] at hy
    obtain ⟨i, h1, rfl⟩ := hy
    obtain ⟨y, h2, h3, _⟩ := hone i h1
    simp [h2, natOf]
    omega
  · simp only [List.flatMap_eq_nil_iff]
    intro z hz
    obtain ⟨i, h1, h2⟩ := List.getElem_of_mem hz
    obtain ⟨y, _, _, z', h3, h4⟩ := hone i (by omega)
    rw [List.getElem?_eq_getElem h1, h2] at h3
    injection h3 with h3
    rw [h3]; exact h4

theorem open_u8s {n : Nat} {t e : TypeId} {r : Reach} {b : Nat} {v : Value} {d : DataW H} {p : List MemPlace} (ht : P.underlying t = some (.array n e)) (he : P.underlying e = some (.int .u8)) (hc : P.cellsOf e = 1)
    (hct : P.cellsOf t = n) (hval : Value.okWide P w r b t v) (h : DataW.Trod enc P w base spare held t v d p) : ∃ L : List Nat, v = .agg (vs .u8 L) ∧ L.length = n ∧ (∀ y ∈ L, y < 256) := by
  obtain ⟨cs, rfl, _⟩ := okWide_array ht hval
  obtain ⟨fuel, hf⟩ := h
  obtain ⟨L, h1, h2, h3, _⟩ := trod_u8s ht he hc hct hf
  refine ⟨L, ?_, h2, h3⟩
  rw [← h1]
  simp [Value.cells]
end
end Go.Proofs.Ytgdjapcpgkflbaa
