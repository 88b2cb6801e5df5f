/- Two messages that may be have the same bytes just if they are the same: the plain law. -/
import Derived.Test.YtokcmaehojljdaaDoorPureInj
import Derived.Test.YtokcmaehojljdaaDoorSame
namespace Go.Proofs.YtokcmaehojljdaaDoor
open Go.RowKit Go.Proofs.YtokcmaehojljdaaDoorW.PrintWords Go.Proofs.YtokcmaehojljdaaDoorW.PrintLast Go.Proofs.YtokcmaehojljdaaDoorW.PrintMore

/-- The numbers of a snapshot, of a message: their ranges. -/
structure SnRange (s : Sn) : Prop where
  hs : s.sum.length = 32
  hn : -9223372036854775808 ≤ s.n ∧ s.n ≤ 9223372036854775807
  hat : -9223372036854775808 ≤ s.at_ ∧ s.at_ ≤ 9223372036854775807
  hc : 0 ≤ s.clock ∧ s.clock ≤ 18446744073709551615
  hp : -9223372036854775808 ≤ s.pages ∧ s.pages ≤ 9223372036854775807
  hb : -9223372036854775808 ≤ s.blocks ∧ s.blocks ≤ 9223372036854775807
structure MsRange (m : Ms) : Prop where
  snap : SnRange m.snap
  hk : -9223372036854775808 ≤ m.kind ∧ m.kind ≤ 9223372036854775807
  hn : -9223372036854775808 ≤ m.n ∧ m.n ≤ 9223372036854775807
  hw : -9223372036854775808 ≤ m.why ∧ m.why ≤ 9223372036854775807
theorem MsOk.range {w : World} {m : Ms} {v0 v1 v2 : Value} (h : MsOk w m v0 v1 v2) : MsRange m :=
  ⟨⟨h.snap.hs, h.snap.hn, h.snap.hat, h.snap.hc, h.snap.hp, h.snap.hb⟩, h.hk, h.hn, h.hw⟩
theorem rowSn_eq (s : Sn) : rowSn s = [hibm, s.mach, dec s.n, dec s.at_, ⟨(putU s.clock.toNat 8).toArray⟩, dec s.pages, dec s.blocks, digs s.l0, digs s.l1, digs s.l2, ⟨s.sum.toArray⟩] := rfl
theorem good_all (l : List ByteArray) (h : anyBad l = false) : ∀ x ∈ l, ofOk x = true := by
  intro x hx
  unfold anyBad at h
  rw [List.any_eq_false] at h
  simpa using h x hx
theorem digs_one (l m : List ByteArray) (hl : anyBad l = false) (hm : anyBad m = false) (h : digs l = digs m) : l = m := digs_inj l m (good_all l hl) (good_all m hm) (bytes_inj h)
theorem bytesSn_inj (s t : Sn) (hs : SnRange s) (ht : SnRange t) (cs : checkSn s = 0) (ct : checkSn t = 0) (h : bytesSn s = bytesSn t) : s = t := by
  obtain ⟨_, _, _, bs⟩ := check_zero s cs
  obtain ⟨_, _, _, bt⟩ := check_zero t ct
  rw [badS, Bool.or_eq_false_iff, Bool.or_eq_false_iff] at bs bt
  rw [bytesSn, bytesSn, if_pos cs, if_pos ct] at h
  have hr := rowU_inj _ _ (bytes_inj h)
  rw [rowSn_eq, rowSn_eq] at hr
  simp only [List.cons.injEq, and_true, true_and] at hr
  obtain ⟨e0, e1, e2, e3, e4, e5, e6, e7, e8, e9⟩ := hr
  have f1 := dec_inj _ _ hs.hn ht.hn e1
  have f2 := dec_inj _ _ hs.hat ht.hat e2
  have f4 := dec_inj _ _ hs.hp ht.hp e4
  have f5 := dec_inj _ _ hs.hb ht.hb e5
  have f3 : s.clock = t.clock := by
    have a := hs.hc
    have b := ht.hc
    have := putU_inj s.clock.toNat t.clock.toNat (by omega) (by omega) (bytes_inj e3)
    omega
  have f6 := digs_one _ _ bs.1.1 bt.1.1 e6
  have f7 := digs_one _ _ bs.1.2 bt.1.2 e7
  have f8 := digs_one _ _ bs.2 bt.2 e8
  have f9 := bytes_inj e9
  cases s; cases t
  simp only [Sn.mk.injEq] at *
  exact ⟨e0, f1, f2, f3, f4, f5, f6, f7, f8, f9⟩
theorem empty_sn0 (s : Sn) (h : emptyB s = true) : s = sn0 := by
  unfold emptyB at h
  simp only [Bool.and_eq_true, beq_iff_eq] at h
  obtain ⟨⟨⟨⟨⟨⟨⟨h0, h1⟩, h2⟩, h3⟩, h4⟩, h5⟩, h6⟩, h7⟩ := h
  have l0 : s.l0 = [] := List.length_eq_zero_iff.1 (by omega)
  have l1 : s.l1 = [] := List.length_eq_zero_iff.1 (by omega)
  have l2 : s.l2 = [] := List.length_eq_zero_iff.1 (by omega)
  have hm : s.mach = ⟨#[]⟩ := (toList_inj _ _).1 (h1.trans nil_list.symm)
  cases s
  unfold sn0
  simp only [Sn.mk.injEq] at *
  exact ⟨hm, h2, h3, h4, h5, h6, l0, l1, l2, h7⟩
theorem isEmpty_nil (s : ByteArray) (h : s.toList.isEmpty = true) : s = ⟨#[]⟩ := (toList_inj _ _).1 ((List.isEmpty_iff.1 h).trans nil_list.symm)
theorem good_parts (m : Ms) (h : goodHas m = true) : (m.kind ≠ 1 → m.kind ≠ 2 → m.data = ⟨#[]⟩) ∧ (m.kind ≠ 3 → m.snap = sn0) ∧ (m.kind ≠ 4 → m.n = 0) ∧ (m.kind ≠ 5 → m.why = 0) := by
  unfold goodHas at h
  rw [Bool.and_eq_true, Bool.and_eq_true, Bool.and_eq_true] at h
  obtain ⟨⟨⟨h1, h2⟩, h3⟩, h4⟩ := h
  refine ⟨fun k1 k2 => ?_, fun k => ?_, fun k => ?_, fun k => ?_⟩
  · have e : may1 m.kind = false := by simp [may1, k1, k2]
    rw [e, Bool.and_false] at h1
    exact isEmpty_nil _ (by simpa using h1)
  · have e : (m.kind == 3) = false := beq_eq_false_iff_ne.2 k
    rw [e, Bool.and_false] at h2
    exact empty_sn0 _ (by simpa using h2)
  · have e : (m.kind == 4) = false := beq_eq_false_iff_ne.2 k
    rw [e, Bool.and_false] at h3
    simpa using h3
  · have e : (m.kind == 5) = false := beq_eq_false_iff_ne.2 k
    rw [e, Bool.and_false] at h4
    simpa using h4
theorem putMs_inj (m n : Ms) (hm : MsRange m) (hn : MsRange n) (cm : checkMs m = 0) (cn : checkMs n = 0) (h : putMs m = putMs n) : m = n := by
  rw [putMs, putMs, if_pos cm, if_pos cn] at h
  have hr := rowU_inj _ _ (bytes_inj h)
  simp only [List.cons.injEq, and_true] at hr
  obtain ⟨e0, e1⟩ := hr
  have hk := dec_inj _ _ hm.hk hn.hk e0
  obtain ⟨a1, a2, _, _, a5⟩ := checkMs_zero m cm
  obtain ⟨b1, b2, _, _, b5⟩ := checkMs_zero n cn
  obtain ⟨c1, c2, c3, c4⟩ := good_parts m a2
  obtain ⟨d1, d2, d3, d4⟩ := good_parts n b2
  rw [← hk] at d1 d2 d3 d4 b5
  unfold loadMs at e1
  rw [← hk] at e1
  rw [ms_eq]
  by_cases k3 : m.kind = 3
  · rw [if_pos k3, if_pos k3] at e1
    have hs := bytesSn_inj _ _ hm.snap hn.snap (a5 k3) (b5 k3) e1
    exact ⟨hk, by rw [c1 (by omega) (by omega), d1 (by omega) (by omega)], by rw [c3 (by omega), d3 (by omega)], by rw [c4 (by omega), d4 (by omega)], hs⟩
  rw [if_neg k3, if_neg k3] at e1
  have hs : m.snap = n.snap := by rw [c2 k3, d2 k3]
  by_cases k4 : m.kind = 4
  · rw [if_pos k4, if_pos k4] at e1
    exact ⟨hk, by rw [c1 (by omega) (by omega), d1 (by omega) (by omega)], dec_inj _ _ hm.hn hn.hn e1, by rw [c4 (by omega), d4 (by omega)], hs⟩
  rw [if_neg k4, if_neg k4] at e1
  by_cases k5 : m.kind = 5
  · rw [if_pos k5, if_pos k5] at e1
    exact ⟨hk, by rw [c1 (by omega) (by omega), d1 (by omega) (by omega)], by rw [c3 k4, d3 k4], dec_inj _ _ hm.hw hn.hw e1, hs⟩
  rw [if_neg k5, if_neg k5] at e1
  exact ⟨hk, by rw [e1], by rw [c3 k4, d3 k4], by rw [c4 k5, d4 k5], hs⟩
end Go.Proofs.YtokcmaehojljdaaDoor
