/- strings.Builder: what its methods do, out of their text. -/
import Derived.Test.YtokcmaehojljdaaDoorPNum1
import Derived.Test.YtokcmaehojljdaaDoorShelf
namespace Go.Proofs.YtokcmaehojljdaaDoor
open Go.RowKit Go.Proofs.YtokcmaehojljdaaDoorW.PrintWords Go.Proofs.YtokcmaehojljdaaDoorW.PrintLast Go.Proofs.YtokcmaehojljdaaDoorW.PrintMore

set_option maxHeartbeats 1000000 in
set_option maxRecDepth 100000 in
theorem copyCheck_any {w : World} {B b : Nat} {L : List Value} (h : Lib.IsBuilder 66 5 B b L w) :
    Calls Tryd.prog 61 #[.pointer (some ⟨b, 0, none⟩)] w fun e w' => e = .returned (.tuple #[]) ∧ Lib.BuilderAt 66 5 B b (.pointer (some ⟨b, 0, none⟩)) L w' ∧ Below B w w' ∧ (w' = w ∨ w' = w.setCell ⟨b, 0, none⟩ (.pointer (some ⟨b, 0, none⟩))) := by
  rcases h with h | h
  · have hsh := h.shape
    have k0 := h.cell0
    have f0 := h.frozen0
    obtain ⟨j, hj, hjs⟩ : ∃ j, Tryd.prog.info? 66 = some j ∧ j.size = 2 := by
      have e : (Tryd.prog.info? 66).map (·.size) = some 2 := by kernel_rfl
      obtain ⟨j, hj, hs⟩ := Option.map_eq_some_iff.1 e
      exact ⟨j, hj, hs⟩
    go_enter Tryd.func61, Tryd.ntmps61
    go_wp2
    rw [Lib.run_to_unsafe w ⟨b, 0, none⟩ Tryd.underlying64 Tryd.underlying101 hj (by rw [hjs]; decide) hsh (Nat.zero_lt_succ 1)]
    simp only [Result.andThen]
    rw [Oper.upon_value]
    go_wp2
    rw [run_callFunc_extern Tryd.func73 (by kernel_rfl) (by kernel_rfl) (by kernel_rfl) (e := Extern.AbiNoEscape.same) (by kernel_rfl)]
    rw [Lib.run_noEscape]
    simp only [Result.andThen]
    rw [Oper.upon_value]
    go_wp2
    rw [Lib.run_from_unsafe w ⟨b, 0, none⟩ Tryd.underlying101 Tryd.underlying64 hj hsh (by kernel_rfl)]
    simp only [Result.andThen]
    rw [Oper.upon_value]
    go_wp2
    go_end0
    exact ⟨rfl, h.used _, (Below.refl B w).setCell (p := ⟨b, 0, none⟩) h.1 _, .inr rfl⟩
  · have k0 := h.cell0
    obtain ⟨j, hj, hjs⟩ : ∃ j, Tryd.prog.info? 66 = some j ∧ j.size = 2 := by
      have e : (Tryd.prog.info? 66).map (·.size) = some 2 := by kernel_rfl
      obtain ⟨j, hj, hs⟩ := Option.map_eq_some_iff.1 e
      exact ⟨j, hj, hs⟩
    go_enter Tryd.func61, Tryd.ntmps61
    go_wp2
    rw [Lib.run_neq_ptr_same w _ Tryd.underlying64 hj]
    go_wp2
    go_end0
    exact ⟨rfl, h, Below.refl B w, .inl rfl⟩

theorem add_block (a : Addr) (j : Nat) : (a.add j).block = a.block := by unfold Addr.add; split <;> rfl
theorem Bd_parts {w : World} {B b : Nat} {q : Value} {L : List Value} (h : Lib.BuilderAt 66 5 B b q L w) :
    ∃ A c, w.heap[b]? = some (.cells #[q, .slice A L.length c] 66 (0, 0)) ∧ w.ownsRow B 5 1 (.slice A L.length c) L.length L ∧ (Value.slice A L.length c).ownBlock ≠ some b := by
  obtain ⟨hB, v, hr, ho, hn⟩ := h
  rcases ho.2 with ⟨rfl, h0⟩ | ⟨g, cap, cur, rfl, _⟩
  · exact ⟨none, 0, by rw [h0]; exact hr, by rw [h0]; rw [h0] at ho; exact ho, by simp [Value.ownBlock]⟩
  · exact ⟨_, _, hr, ho, hn⟩

set_option maxHeartbeats 2000000 in
set_option maxRecDepth 100000 in
theorem write_any {w : World} {B b : Nat} {L : List Value} (h : Lib.IsBuilder 66 5 B b L w) (ad : Addr) (m c : Nat) (news : List Value) (hl : news.length = m) (hm : 0 < m)
    (hnews : ∀ j u, news[j]? = some u → w.cell? (ad.add j) = some u) (hadB : ad.block ≠ b) (h1 : ∀ u ∈ news, u.oneCell' = true) (hlen : L.length + m ≤ 140737488355328) (hBw : B ≤ w.heap.size) :
    Calls Tryd.prog 35 #[.pointer (some ⟨b, 0, none⟩), .slice (some ad) m c] w fun e w' => (∃ v, e = .returned v) ∧ Lib.IsBuilder 66 5 B b (L ++ news) w' ∧ Below B w w' := by
  go_enter Tryd.func35, Tryd.ntmps35
  go_upto_region 1 with (fail)
  go_wp2_with fail
  refine (copyCheck_any h).mono ?_
  rintro e w1 ⟨rfl, hb, hbel, hw1⟩
  obtain ⟨A, cc, hr, ho, hn⟩ := Bd_parts hb
  have k1 : w1.cell? ⟨b, 1, none⟩ = some (.slice A L.length cc) := cell_of_row w1 b 1 _ 66 _ hr
  have hnews' : ∀ j u, news[j]? = some u → w1.cell? (ad.add j) = some u := by
    intro j u hu
    rcases hw1 with rfl | rfl
    · exact hnews j u hu
    · rw [World.cell?_setCell_other _ _ _ _ (by intro e; exact hadB ((add_block ad j).symm.trans (congrArg Addr.block e).symm))]
      exact hnews j u hu
  obtain ⟨i5, hi5, hi5'⟩ := Option.map_eq_some_iff.1 PWire.info5
  simp only [Prod.mk.injEq] at hi5'
  obtain ⟨hi5z, hi5s, hi5b⟩ := hi5'
  have hB1 : B ≤ w1.heap.size := Nat.le_trans hBw hbel.size
  clear hw1 hnews
  go_wp2_with (refine wpList_append_lies w1 rfl (.tmp 12) (.tmp 13) 42 rfl B 5 i5 (.int .u8 0) 1 1 Tryd.underlying42 hi5 hi5z hi5s hi5b rfl (by omega) _ L.length L rfl ho ad m c news rfl (by omega) hnews' h1 hm (by unfold maxLen; omega) (by omega) hB1 _ rfl ?_)
  intro g cap w2 hown hgrow hat hlt2
  have hr2 : w2.heap[b]? = some (.cells #[.pointer (some ⟨b, 0, none⟩), .slice A L.length cc] 66 (0, 0)) := (hgrow.block b (Array.getElem?_eq_some_iff.1 hr).1 (fun e => hn e.symm)).trans hr
  have k2 : w2.cell? ⟨b, 1, none⟩ = some (.slice A L.length cc) := cell_of_row w2 b 1 _ 66 _ hr2
  have f2 : w2.frozen? ⟨b, 1, none⟩ = false := frozen_of_row w2 b 1 _ 66 hr2
  have hbl := hb.lt
  have hgb : g ≠ b := by
    rcases hat with e | e
    · intro e2; exact hn (by rw [e, e2])
    · omega
  clear k1
  go_wp2_with fail
  go_ret2
  have hb3 : Lib.BuilderAt 66 5 B b (.pointer (some ⟨b, 0, none⟩)) (L ++ news) (w2.setCell ⟨b, 1, none⟩ (.slice (some ⟨g, 0, none⟩) (L.length + m) cap)) := by
    refine ⟨hb.1, .slice (some ⟨g, 0, none⟩) (L.length + m) cap, heap_setCell_same w2 b 1 _ 66 _ hr2, ?_, fun e => hgb (by injection e)⟩
    rw [List.length_append, hl]
    refine own_move hown (fun k hk => heap_setCell_other w2 ⟨b, 1, none⟩ k _ ?_)
    have : g = k := by injection hk
    show k ≠ b
    omega
  have hbel2 : Below B w1 w2 := ⟨hgrow.os, hgrow.tape, hgrow.output, hgrow.size, fun k hk => hgrow.block k (by omega) (fun e => by have := (ho.lt k e.symm).1; omega)⟩
  exact ⟨⟨_, rfl⟩, .inr hb3, (hbel.trans hbel2).setCell hb.1 _⟩

set_option maxHeartbeats 2000000 in
set_option maxRecDepth 100000 in
theorem writeString_any {w : World} {B b : Nat} {L : List Value} (h : Lib.IsBuilder 66 5 B b L w) (s : ByteArray) (hlen : L.length + s.size ≤ 140737488355328) (hBw : B ≤ w.heap.size) :
    Calls Tryd.prog 37 #[.pointer (some ⟨b, 0, none⟩), .string s] w fun e w' => (∃ v, e = .returned v) ∧ Lib.IsBuilder 66 5 B b (L ++ Lib.strCells s) w' ∧ Below B w w' := by
  go_enter Tryd.func37, Tryd.ntmps37
  go_upto_region 1 with (fail)
  go_wp2_with fail
  refine (copyCheck_any h).mono ?_
  rintro e w1 ⟨rfl, hb, hbel, _⟩
  obtain ⟨A, cc, hr, ho, hn⟩ := Bd_parts hb
  have k1 : w1.cell? ⟨b, 1, none⟩ = some (.slice A L.length cc) := cell_of_row w1 b 1 _ 66 _ hr
  obtain ⟨i5, hi5, hi5'⟩ := Option.map_eq_some_iff.1 PWire.info5
  simp only [Prod.mk.injEq] at hi5'
  obtain ⟨hi5z, hi5s, hi5b⟩ := hi5'
  have hB1 : B ≤ w1.heap.size := Nat.le_trans hBw hbel.size
  go_wp2_with (refine Lib.wpList_append_own_string w1 rfl (.tmp 12) (.tmp 13) 42 9 rfl B 5 i5 Tryd.underlying42 Tryd.underlying9 hi5 hi5z hi5s hi5b _ L.length L rfl ho s rfl (by unfold maxLen; omega) (by omega) hB1 ?_)
  intro v2 w2 hown hgrow hnil
  have hr2 : w2.heap[b]? = some (.cells #[.pointer (some ⟨b, 0, none⟩), .slice A L.length cc] 66 (0, 0)) := (hgrow.block b (Array.getElem?_eq_some_iff.1 hr).1 (fun e => hn e.symm)).trans hr
  have k2 : w2.cell? ⟨b, 1, none⟩ = some (.slice A L.length cc) := cell_of_row w2 b 1 _ 66 _ hr2
  have f2 : w2.frozen? ⟨b, 1, none⟩ = false := frozen_of_row w2 b 1 _ 66 hr2
  have hgb : v2.ownBlock ≠ some b := by
    intro e
    obtain ⟨cells, hc⟩ := own_typed hown b e
    rw [hr2] at hc
    cases hc
  obtain ⟨A2, c2, rfl⟩ : ∃ A2 c2, v2 = .slice A2 (L.length + s.size) c2 := by
    rcases hown.2 with ⟨rfl, h0⟩ | ⟨g, cap, cur, rfl, _⟩
    · exact ⟨none, 0, by rw [h0]⟩
    · exact ⟨_, _, rfl⟩
  clear k1
  go_wp2_with fail
  go_ret2
  have hll : (L ++ Lib.strCells s).length = L.length + s.size := by rw [List.length_append, Lib.strCells_length]
  have hb3 : Lib.BuilderAt 66 5 B b (.pointer (some ⟨b, 0, none⟩)) (L ++ Lib.strCells s) (w2.setCell ⟨b, 1, none⟩ (.slice A2 (L.length + s.size) c2)) := by
    refine ⟨hb.1, .slice A2 (L.length + s.size) c2, heap_setCell_same w2 b 1 _ 66 _ hr2, ?_, hgb⟩
    rw [hll]
    exact own_move hown (fun k hk => heap_setCell_other w2 ⟨b, 1, none⟩ k _ (fun e => hgb (by rw [hk]; exact congrArg some e)))
  have hbel2 : Below B w1 w2 := ⟨hgrow.os, hgrow.tape, hgrow.output, hgrow.size, fun k hk => hgrow.block k (by omega) (fun e => by have := (ho.lt k e.symm).1; omega)⟩
  exact ⟨⟨_, rfl⟩, .inr hb3, (hbel.trans hbel2).setCell hb.1 _⟩
end Go.Proofs.YtokcmaehojljdaaDoor
