/- A message that came in: opened. -/
import Derived.Test.YtokcmaehojljdaaDoorSnap
import Derived.WalkKit
import Derived.ProofKit
import Derived.OpenShut
namespace Go.Proofs.YtokcmaehojljdaaDoor
open Go.ChangeShapes Go.WideShapes Go.ChangeAt Go.RowKit Go.Proofs.YtokcmaehojljdaaDoorW.PrintWords Go.Proofs.YtokcmaehojljdaaDoorW.PrintLast Go.Proofs.YtokcmaehojljdaaDoorW.PrintMore

theorem piece {α : Type} (l : List α) (o n : Nat) (P R : List α) (h1 : (l.drop o).take n = P) (h2 : l.drop (o + n) = R) : l.drop o = P ++ R := by
  rw [← List.take_append_drop n (l.drop o), h1, List.drop_drop, h2]
theorem drop_end {α : Type} (l : List α) (n : Nat) (h : l.length = n) : l.drop n = [] := List.drop_of_length_le (by omega)
section
variable {H : Type} {enc : TypeId × Value → H} {w : World} {base : Nat} {spare : Nat → Bool} {held : Bool}
theorem trod_sum {fuel : Nat} {cs : List Value} {x : DataW H × List MemPlace} (h : DataW.trod enc Tryd.prog w base spare held fuel 26 cs = some x) : ∃ L : List UInt8, cs = Lib.byteCells L ∧ L.length = 32 := by
  obtain ⟨xs, m, rfl, rfl, hl, hx, hi⟩ := DataW.trod_array Tryd.underlying26 h
  have c26 : Tryd.prog.cellsOf 26 = 32 := by kernel_rfl
  have c5 : Tryd.prog.cellsOf 5 = 1 := by kernel_rfl
  rw [c26] at hl
  rw [c5] at hi
  have hone : ∀ i, i < 32 → ∃ u : UInt8, cs[i]? = some (.int .u8 (u.toNat : Int)) := by
    intro i h1
    have h2 := hi i h1
    rw [List.getElem?_eq_getElem (by omega)] at h2
    obtain ⟨k, hk, hz, hw⟩ := DataW.trod_int Tryd.underlying5 h2
    have hb := bounds_u8 hw
    refine ⟨UInt8.ofNat k.toNat, ?_⟩
    rw [Nat.mul_one] at hk
    have : cs[i]? = ((cs.drop i).take 1)[0]? := by simp
    rw [this, hk]
    simp
    omega
  refine ⟨cs.map fun v => match v with | .int _ y => UInt8.ofNat y.toNat | _ => 0, ?_, by simp [hl]⟩
  apply List.ext_getElem?
  intro i
  by_cases h1 : i < 32
  · obtain ⟨u, hu⟩ := hone i h1
    simp [Lib.byteCells, hu]
  · have : cs[i]? = none := List.getElem?_eq_none (by omega)
    simp [Lib.byteCells, this]
set_option maxRecDepth 100000 in
theorem open_lists {fuel : Nat} {cs : List Value} {x : DataW H × List MemPlace} (h : DataW.trod enc Tryd.prog w 0 (fun _ => true) true fuel 24 cs = some x) (hsz : ∀ n ∈ x.1.weights Tryd.prog 24, n ≤ reachBytes) :
    ∃ v0 v1 v2 l0 l1 l2, cs = [v0, v1, v2] ∧ TextsAt w v0 l0 ∧ TextsAt w v1 l1 ∧ TextsAt w v2 l2 := by
  obtain ⟨xs, m, rfl, rfl, hl, hx, hi⟩ := DataW.trod_array Tryd.underlying24 h
  have c24 : Tryd.prog.cellsOf 24 = 3 := by kernel_rfl
  rw [c24] at hl
  rw [cells23] at hi
  obtain ⟨v0, v1, v2, rfl⟩ : ∃ v0 v1 v2, cs = [v0, v1, v2] := by
    match cs, hl with
    | [v0, v1, v2], _ => exact ⟨v0, v1, v2, rfl⟩
  have hone : ∀ i (hi3 : i < 3) v, ([v0, v1, v2].drop (i * 1)).take 1 = [v] → ∃ l, TextsAt w v l := by
    intro i h1 v hv
    have h2 := hi i h1
    rw [hv, List.getElem?_eq_getElem (by omega)] at h2
    refine open_texts h2 (fun n hn => hsz n ?_)
    simp only [DataW.weights, Tryd.underlying24]
    exact weightsAll_mem (List.mem_map.2 ⟨_, List.getElem_mem _, rfl⟩) n hn
  obtain ⟨l0, t0⟩ := hone 0 (by decide) v0 rfl
  obtain ⟨l1, t1⟩ := hone 1 (by decide) v1 rfl
  obtain ⟨l2, t2⟩ := hone 2 (by decide) v2 rfl
  exact ⟨v0, v1, v2, l0, l1, l2, rfl, t0, t1, t2⟩
set_option maxRecDepth 100000 in
theorem open_sn {fuel : Nat} {cs : List Value} {x : DataW H × List MemPlace} (h : DataW.trod enc Tryd.prog w 0 (fun _ => true) true fuel 28 cs = some x) (hsz : ∀ n ∈ x.1.weights Tryd.prog 28, n ≤ reachBytes) :
    ∃ s v0 v1 v2, cs = snL s v0 v1 v2 ∧ SnOk w s v0 v1 v2 := by
  obtain ⟨xs, m, rfl, rfl, hl, hx, hi⟩ := DataW.trod_struct Tryd.underlying28 h
  have c28 : Tryd.prog.cellsOf 28 = 41 := by kernel_rfl
  have c9 : Tryd.prog.cellsOf 9 = 1 := by kernel_rfl
  have c2 : Tryd.prog.cellsOf 2 = 1 := by kernel_rfl
  have c3 : Tryd.prog.cellsOf 3 = 1 := by kernel_rfl
  have c22 : Tryd.prog.cellsOf 22 = 1 := by kernel_rfl
  have c24 : Tryd.prog.cellsOf 24 = 3 := by kernel_rfl
  have c26 : Tryd.prog.cellsOf 26 = 32 := by kernel_rfl
  rw [c28] at hl
  have hx8 : xs.length = 8 := hx
  have hw : ∀ (j : Nat) (hj : j < 8) (t : TypeId), ([9, 3, 2, 22, 3, 3, 24, 26] : List TypeId)[j]? = some t → ∀ n ∈ (xs[j]'(by omega)).1.weights Tryd.prog t, n ≤ reachBytes := by
    intro j hj t ht n hn
    refine hsz n ?_
    simp only [DataW.weights, Tryd.underlying28]
    exact DataW.weights_mem_each (j := j) (t := t) ht (by rw [List.getElem?_map, List.getElem?_eq_getElem (by omega)]; rfl) n hn
  have g0 : DataW.trod enc Tryd.prog w 0 (fun _ => true) true m 9 ((cs.drop 0).take (Tryd.prog.cellsOf 9)) = xs[0]? := by
    have g := hi 0 _ rfl
    exact g
  have g1 : DataW.trod enc Tryd.prog w 0 (fun _ => true) true m 3 ((cs.drop 1).take (Tryd.prog.cellsOf 3)) = xs[1]? := by
    have g := hi 1 _ rfl
    exact g
  have g2 : DataW.trod enc Tryd.prog w 0 (fun _ => true) true m 2 ((cs.drop 2).take (Tryd.prog.cellsOf 2)) = xs[2]? := by
    have g := hi 2 _ rfl
    exact g
  have g3 : DataW.trod enc Tryd.prog w 0 (fun _ => true) true m 22 ((cs.drop 3).take (Tryd.prog.cellsOf 22)) = xs[3]? := by
    have g := hi 3 _ rfl
    exact g
  have g4 : DataW.trod enc Tryd.prog w 0 (fun _ => true) true m 3 ((cs.drop 4).take (Tryd.prog.cellsOf 3)) = xs[4]? := by
    have g := hi 4 _ rfl
    exact g
  have g5 : DataW.trod enc Tryd.prog w 0 (fun _ => true) true m 3 ((cs.drop 5).take (Tryd.prog.cellsOf 3)) = xs[5]? := by
    have g := hi 5 _ rfl
    exact g
  have g6 : DataW.trod enc Tryd.prog w 0 (fun _ => true) true m 24 ((cs.drop 6).take (Tryd.prog.cellsOf 24)) = xs[6]? := by
    have g := hi 6 _ rfl
    exact g
  have g7 : DataW.trod enc Tryd.prog w 0 (fun _ => true) true m 26 ((cs.drop 9).take (Tryd.prog.cellsOf 26)) = xs[7]? := by
    have g := hi 7 _ rfl
    exact g
  rw [List.getElem?_eq_getElem (by omega)] at g0 g1 g2 g3 g4 g5 g6 g7
  obtain ⟨mach, p0, z0, y0⟩ := DataW.trod_string Tryd.underlying9 g0
  obtain ⟨n, p1, _, y1⟩ := DataW.trod_int Tryd.underlying3 g1
  obtain ⟨at_, p2, _, y2⟩ := DataW.trod_int Tryd.underlying2 g2
  obtain ⟨clock, p3, _, y3⟩ := DataW.trod_int Tryd.underlying22 g3
  obtain ⟨pages, p4, _, y4⟩ := DataW.trod_int Tryd.underlying3 g4
  obtain ⟨blocks, p5, _, y5⟩ := DataW.trod_int Tryd.underlying3 g5
  obtain ⟨v0, v1, v2, l0, l1, l2, p6, t0, t1, t2⟩ := open_lists g6 (hw 6 (by decide) 24 rfl)
  obtain ⟨sum, p7, hsum⟩ := trod_sum g7
  have hm : mach.size ≤ 140737488351232 := by
    have := hw 0 (by decide) 9 rfl mach.size (by rw [z0]; simp [DataW.weights])
    exact this
  simp only [c9, c2, c3, c22, c24, c26] at p0 p1 p2 p3 p4 p5 p6 p7
  refine ⟨⟨mach, n, at_, clock, pages, blocks, l0, l1, l2, sum⟩, v0, v1, v2, ?_, ⟨t0, t1, t2, hsum, hm, bounds_i64 y1, bounds_i64 y2, bounds_u64 y3, bounds_i64 y4, bounds_i64 y5⟩⟩
  have q7 := piece cs 9 32 _ _ p7 (drop_end cs 41 hl)
  have q6 := piece cs 6 3 _ _ p6 q7
  have q5 := piece cs 5 1 _ _ p5 q6
  have q4 := piece cs 4 1 _ _ p4 q5
  have q3 := piece cs 3 1 _ _ p3 q4
  have q2 := piece cs 2 1 _ _ p2 q3
  have q1 := piece cs 1 1 _ _ p1 q2
  have q0 := piece cs 0 1 _ _ p0 q1
  rw [List.drop_zero] at q0
  rw [q0]
  simp [snL]
set_option maxRecDepth 100000 in
theorem open_ms {fuel : Nat} {cs : List Value} {x : DataW H × List MemPlace} (h : DataW.trod enc Tryd.prog w 0 (fun _ => true) true fuel 31 cs = some x) (hsz : ∀ n ∈ x.1.weights Tryd.prog 31, n ≤ reachBytes) :
    ∃ m v0 v1 v2, cs = msL m v0 v1 v2 ∧ MsOk w m v0 v1 v2 := by
  obtain ⟨xs, m, rfl, rfl, hl, hx, hi⟩ := DataW.trod_struct Tryd.underlying31 h
  have c31 : Tryd.prog.cellsOf 31 = 45 := by kernel_rfl
  have c28 : Tryd.prog.cellsOf 28 = 41 := by kernel_rfl
  have c9 : Tryd.prog.cellsOf 9 = 1 := by kernel_rfl
  have c29 : Tryd.prog.cellsOf 29 = 1 := by kernel_rfl
  have c3 : Tryd.prog.cellsOf 3 = 1 := by kernel_rfl
  rw [c31] at hl
  have hx8 : xs.length = 5 := hx
  have hw : ∀ (j : Nat) (hj : j < 5) (t : TypeId), ([3, 9, 28, 3, 29] : List TypeId)[j]? = some t → ∀ n ∈ (xs[j]'(by omega)).1.weights Tryd.prog t, n ≤ reachBytes := by
    intro j hj t ht n hn
    refine hsz n ?_
    simp only [DataW.weights, Tryd.underlying31]
    exact DataW.weights_mem_each (j := j) (t := t) ht (by rw [List.getElem?_map, List.getElem?_eq_getElem (by omega)]; rfl) n hn
  have g0 : DataW.trod enc Tryd.prog w 0 (fun _ => true) true m 3 ((cs.drop 0).take (Tryd.prog.cellsOf 3)) = xs[0]? := by
    have g := hi 0 _ rfl
    exact g
  have g1 : DataW.trod enc Tryd.prog w 0 (fun _ => true) true m 9 ((cs.drop 1).take (Tryd.prog.cellsOf 9)) = xs[1]? := by
    have g := hi 1 _ rfl
    exact g
  have g2 : DataW.trod enc Tryd.prog w 0 (fun _ => true) true m 28 ((cs.drop 2).take (Tryd.prog.cellsOf 28)) = xs[2]? := by
    have g := hi 2 _ rfl
    exact g
  have g3 : DataW.trod enc Tryd.prog w 0 (fun _ => true) true m 3 ((cs.drop 43).take (Tryd.prog.cellsOf 3)) = xs[3]? := by
    have g := hi 3 _ rfl
    exact g
  have g4 : DataW.trod enc Tryd.prog w 0 (fun _ => true) true m 29 ((cs.drop 44).take (Tryd.prog.cellsOf 29)) = xs[4]? := by
    have g := hi 4 _ rfl
    exact g
  rw [List.getElem?_eq_getElem (by omega)] at g0 g1 g2 g3 g4
  obtain ⟨kind, p0, _, y0⟩ := DataW.trod_int Tryd.underlying3 g0
  obtain ⟨data, p1, z1, y1⟩ := DataW.trod_string Tryd.underlying9 g1
  obtain ⟨s, v0, v1, v2, p2, hs⟩ := open_sn g2 (hw 2 (by decide) 28 rfl)
  obtain ⟨n, p3, _, y3⟩ := DataW.trod_int Tryd.underlying3 g3
  obtain ⟨why, p4, _, y4⟩ := DataW.trod_int Tryd.underlying29 g4
  have hm : data.size ≤ 140737488351232 := by
    have := hw 1 (by decide) 9 rfl data.size (by rw [z1]; simp [DataW.weights])
    exact this
  simp only [c28, c9, c29, c3] at p0 p1 p2 p3 p4
  refine ⟨⟨kind, data, s, n, why⟩, v0, v1, v2, ?_, ⟨hs, bounds_i64 y0, hm, bounds_i64 y3, bounds_i64 y4⟩⟩
  have q4 := piece cs 44 1 _ _ p4 (drop_end cs 45 hl)
  have q3 := piece cs 43 1 _ _ p3 q4
  have q2 := piece cs 2 41 _ _ p2 q3
  have q1 := piece cs 1 1 _ _ p1 q2
  have q0 := piece cs 0 1 _ _ p0 q1
  rw [List.drop_zero] at q0
  rw [q0]
  simp [msL]
set_option maxRecDepth 100000 in
theorem open_msg {r : Reach} {b : Nat} {v : Value} {d : DataW H} {p : List MemPlace} (hval : Value.okWide Tryd.prog w r b 31 v) (h : DataW.Trod enc Tryd.prog w 0 (fun _ => true) true 31 v d p) (hsz : ∀ n ∈ d.weights Tryd.prog 31, n ≤ reachBytes) :
    ∃ m v0 v1 v2, v = .agg (msL m v0 v1 v2).toArray ∧ MsOk w m v0 v1 v2 := by
  obtain ⟨cs, rfl, _⟩ := okWide_struct Tryd.underlying31 hval
  obtain ⟨fuel, hf⟩ := h
  obtain ⟨m, v0, v1, v2, e, hm⟩ := open_ms hf hsz
  refine ⟨m, v0, v1, v2, ?_, hm⟩
  rw [← e]
  simp [Value.cells]
end
end Go.Proofs.YtokcmaehojljdaaDoor
