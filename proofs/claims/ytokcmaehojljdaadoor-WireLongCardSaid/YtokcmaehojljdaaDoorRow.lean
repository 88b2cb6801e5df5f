/- num.Row: what it computes, and its walk. -/
import Derived.Test.YtokcmaehojljdaaDoorBuilder
import Derived.Test.YtokcmaehojljdaaDoorPNum1

namespace Go.Proofs.YtokcmaehojljdaaDoor
open Go.RowKit Go.Proofs.YtokcmaehojljdaaDoorW.PrintWords Go.Proofs.YtokcmaehojljdaaDoorW.PrintLast Go.Proofs.YtokcmaehojljdaaDoorW.PrintMore

/-- A length, as bytes. -/
def lenU (n : Nat) : List UInt8 := if n < 128 then [UInt8.ofNat n] else UInt8.ofNat (n % 128 + 128) :: lenU (n / 128)
termination_by n
decreasing_by omega
/-- A row's bytes. -/
def rowU (l : List ByteArray) : List UInt8 := l.flatMap fun s => lenU s.size ++ s.data.toList
def num_Row.f (l0 : List ByteArray) : Option ByteArray := if (rowU l0).length ≤ 140737488355328 then some ⟨(rowU l0).toArray⟩ else none

def intsU (l : List UInt8) : List Int := l.map fun u => (u.toNat : Int)
theorem encs_intsU (l : List UInt8) : encs (Value.int .u8) (intsU l) = Lib.byteCells l := by simp [encs, intsU, Lib.byteCells]
theorem lenU_pos (n : Nat) : 0 < (lenU n).length := by rw [lenU]; split <;> simp
theorem lenU_len : ∀ k n, n < 128 ^ (k + 1) → (lenU n).length ≤ k + 1
  | 0, n, h => by rw [lenU, if_pos (by simpa using h)]; simp
  | k + 1, n, h => by
    rw [lenU]
    split
    · simp
    · have := lenU_len k (n / 128) (by rw [Nat.pow_succ] at h; omega)
      simp; omega
theorem length_pure : ∀ (k n : Nat) (acc : List Int), n < 128 ^ k → 0 < k → n ≤ 9223372036854775807 → acc.length + k < 140737488355328 → PWire.num_length.l0 k n acc = some (acc ++ intsU (lenU n))
  | 0, n, acc, h, h0, _, _ => absurd h0 (by decide)
  | k + 1, n, acc, h, _, hn, ha => by
    rw [PWire.num_length.l0]
    by_cases c : n < 128
    · rw [if_neg (by omega), if_pos (by omega), lenU, if_pos c]
      simp [intsU]
    · have e1 : wrap64 (Int.tdiv (n : Int) 128) = ((n / 128 : Nat) : Int) := by
        rw [Int.tdiv_eq_ediv_of_nonneg (by omega)]; unfold wrap64; omega
      have e2 : (Int.tmod (n : Int) 128 + 128) % 256 = ((n % 128 + 128 : Nat) : Int) := by
        rw [Int.tmod_eq_emod_of_nonneg (by omega)]; omega
      rw [if_pos (by omega), if_pos (by omega), e1, e2, length_pure k (n / 128) _ (by rw [Nat.pow_succ] at h; omega) (by rcases k with _ | k; (simp at h; omega); omega) (by omega) (by simp; omega), lenU.eq_1 n, if_neg c]
      simp [intsU]
      omega
set_option maxRecDepth 100000 in
theorem length_any (n : Nat) (hn : n ≤ 9223372036854775807) (w : World) :
    Calls Tryd.prog 36 #[.int .i64 n] w fun e w' => (∃ g c, e = .returned (.slice (some ⟨g, 0, none⟩) (lenU n).length c) ∧ w.heap.size ≤ g ∧ ∀ j u, (Lib.byteCells (lenU n))[j]? = some u → w'.cell? ((⟨g, 0, none⟩ : Addr).add j) = some u) ∧ Below w.heap.size w w' := by
  refine (PWire.num_length.calls 20 n (intsU (lenU n)) w ?_).mono ?_
  · exact length_pure 20 n [] (Nat.lt_of_le_of_lt hn (by decide)) (by decide) hn (by simp)
  rintro e w' ⟨v, rfl, hR, hb⟩
  refine ⟨?_, hb⟩
  have hown := Kd.own_of_R hR
  rw [encs_intsU] at hown
  have hp := lenU_pos n
  have hl : (intsU (lenU n)).length = (lenU n).length := by simp [intsU]
  rw [hl] at hown
  obtain ⟨g, cap, rfl, hg, hlt⟩ := hown.form hp
  exact ⟨g, cap, rfl, hg, hown.cells rfl⟩
theorem rowU_take (l : List ByteArray) (i : Nat) (s : ByteArray) (h : l[i]? = some s) : rowU (l.take (i + 1)) = rowU (l.take i) ++ lenU s.size ++ s.data.toList := by
  have : l.take (i + 1) = l.take i ++ [s] := by rw [List.take_add_one, h]; rfl
  rw [this]
  simp [rowU]
theorem rowU_mono (l : List ByteArray) (i : Nat) : (rowU (l.take i)).length ≤ (rowU l).length := by
  have : rowU l = rowU (l.take i) ++ rowU (l.drop i) := by
    unfold rowU
    rw [← List.flatMap_append, List.take_append_drop]
  rw [this]; simp

theorem isBuilder_kept {w w' : World} {B b : Nat} {L : List Value} (h : Lib.IsBuilder 66 5 B b L w) (hb : Below w.heap.size w w') : Lib.IsBuilder 66 5 B b L w' := by
  have k : ∀ q, Lib.BuilderAt 66 5 B b q L w → Lib.BuilderAt 66 5 B b q L w' := fun q hq => by
    have hl := hq.lt
    obtain ⟨h1, v, h2, h3, h4⟩ := hq
    exact ⟨h1, v, (hb.block b hl).trans h2, own_move h3 (fun k hk => hb.block k (h3.lt k hk).2), h4⟩
  exact h.imp (k _) (k _)
theorem byteCells_one (l : List UInt8) : ∀ u ∈ Lib.byteCells l, u.oneCell' = true := by
  intro u hu
  simp only [Lib.byteCells, List.mem_map] at hu
  obtain ⟨x, _, rfl⟩ := hu
  rfl
theorem rowU_count : ∀ l : List ByteArray, l.length ≤ (rowU l).length
  | [] => by simp
  | s :: l => by
    have ih := rowU_count l
    have := lenU_pos s.size
    have e : rowU (s :: l) = lenU s.size ++ (s.data.toList ++ rowU l) := by simp [rowU]
    rw [e, List.length_append, List.length_append, List.length_cons]
    omega

set_option maxHeartbeats 2000000 in
set_option maxRecDepth 100000 in
theorem num_Row.calls (A0 : Option Addr) (c0 : Nat) (l0 : List ByteArray) (r : ByteArray) (w : World) (hr0 : Kd.C Kd.string w A0 l0.length l0) (_hc0 : l0.length ≤ c0) (h : num_Row.f l0 = some r) :
    Calls Tryd.prog 17 #[.slice A0 l0.length c0] w fun e w' => e = .returned (.string r) ∧ Below w.heap.size w w' := by
  obtain ⟨hlen, rfl⟩ : (rowU l0).length ≤ 140737488355328 ∧ r = ⟨(rowU l0).toArray⟩ := by
    unfold num_Row.f at h
    split at h
    · exact ⟨by assumption, (Option.some.inj h).symm⟩
    · cases h
  clear h
  go_enter Tryd.func17, Tryd.ntmps17
  go_upto_block 0 with (fail)
  have hb0 : Below w.heap.size w (w.alloc (.cells #[.pointer none, .slice none 0 0] 66)) := (Below.refl _ w).alloc (Nat.le_refl _) _
  have hB0 : Lib.IsBuilder 66 5 w.heap.size w.heap.size (Lib.byteCells (rowU (l0.take 0))) (w.alloc (.cells #[.pointer none, .slice none 0 0] 66)) :=
    .inl ⟨Nat.le_refl _, .slice none 0 0, heap_alloc_new w _, by simp [rowU, Lib.byteCells]; exact World.ownsRow_nil _ _ _ _, by simp [Value.ownBlock]⟩
  have hll := rowU_count l0
  generalize w.alloc (.cells #[.pointer none, .slice none 0 0] 66) = W0 at *
  go_wp2_with fail
  go_loopw [8] (fun v8 wr => ∃ i : Nat, i ≤ l0.length ∧ v8 = .int .i64 i ∧ Lib.IsBuilder 66 5 w.heap.size w.heap.size (Lib.byteCells (rowU (l0.take i))) wr ∧ Below w.heap.size w wr) (fun v8 _ => l0.length - (intOf v8).toNat)
  case atStart => exact ⟨0, by omega, rfl, hB0, hb0⟩
  case round =>
    clear hB0 hb0
    obtain ⟨i, hi, rfl, hB, hb⟩ := hrel
    by_cases hlt : i < l0.length
    · have hd : decide ((i : Int) < l0.length) = true := decide_eq_true (by omega)
      obtain ⟨ad, e, hx⟩ := Kd.at_string (Kd.C_below hr0 hb) (i : Int) (by omega) (by omega)
      cases e
      obtain ⟨s, hs⟩ : ∃ s, l0[i]? = some s := ⟨_, List.getElem?_eq_getElem hlt⟩
      have hx' : wr.cell? (ad.add i) = some (.string s) := by
        have e2 : rdOf ByteArray.empty l0 (i : Int) = s := by simp [rdOf, List.getD_eq_getElem?_getD, hs]
        rw [e2] at hx
        exact hx
      have p1 : (0 ≤ (i : Int)) = True := eq_true (by omega)
      have q1 : ((i : Int) < l0.length) = True := eq_true (by omega)
      have htk := rowU_take l0 i s hs
      have hmo := rowU_mono l0 (i + 1)
      rw [htk] at hmo
      simp only [List.length_append] at hmo
      have hsz : s.data.toList.length = s.size := by simp
      clear hx
      go_wp2_with fail
      refine (length_any s.size (by omega) _).mono ?_
      rintro e w1 ⟨⟨g, c, rfl, hg, hcells⟩, hb1⟩
      have hBw : w.heap.size < wr.heap.size := by rcases hB with h | h <;> exact h.lt
      have hB1 : Lib.IsBuilder 66 5 w.heap.size w.heap.size (Lib.byteCells (rowU (l0.take i))) w1 := isBuilder_kept hB hb1
      have hb1' := hb.trans (hb1.mono hb.size)
      go_wp2_with fail
      refine (write_any hB1 ⟨g, 0, none⟩ (lenU s.size).length c (Lib.byteCells (lenU s.size)) (Lib.byteCells_length _) (lenU_pos _) hcells (by show g ≠ _; omega) (byteCells_one _) (by rw [Lib.byteCells_length]; omega) hb1'.size).mono ?_
      rintro e w2 ⟨⟨v, rfl⟩, hB2, hb2⟩
      have hb2' := hb1'.trans hb2
      go_wp2_with fail
      refine (writeString_any hB2 s (by rw [List.length_append, Lib.byteCells_length, Lib.byteCells_length]; omega) hb2'.size).mono ?_
      rintro e w3 ⟨⟨v, rfl⟩, hB3, hb3⟩
      have hb3' := hb2'.trans hb3
      have e3 : Lib.byteCells (rowU (l0.take i)) ++ Lib.byteCells (lenU s.size) ++ Lib.strCells s = Lib.byteCells (rowU (l0.take (i + 1))) := by
        rw [htk]; simp [Lib.byteCells, Lib.strCells]
      rw [e3] at hB3
      clear hB hB1 hB2 hb hb1 hb1' hb2 hb2' hb3 e3
      go_wp2_with fail
      go_roundw
      case rel => exact ⟨i + 1, by omega, by go_num, hB3, hb3'⟩
      case measure => simp [intOf]; omega
    · have hd : decide ((i : Int) < l0.length) = false := decide_eq_false (by omega)
      rw [List.take_of_length_le (by omega)] at hB
      go_wp2_with fail
      refine (Tryd.Builder_String_any w.heap.size w.heap.size (rowU l0) wr hB hb.size).mono ?_
      rintro e w1 ⟨rfl, hb1⟩
      go_wp2_with fail
      go_ret
      exact ⟨rfl, hb.trans hb1⟩
end Go.Proofs.YtokcmaehojljdaaDoor
