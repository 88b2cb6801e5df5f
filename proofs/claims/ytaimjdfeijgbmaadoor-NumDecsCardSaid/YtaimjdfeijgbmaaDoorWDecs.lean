/- The walk of NumDecs. -/
import Derived.Test.YtaimjdfeijgbmaaDoorIntPure
import Derived.Test.YtaimjdfeijgbmaaDoorPAlive
namespace Go.Proofs.YtaimjdfeijgbmaaDoor
open Go.Proofs.YtaimjdfeijgbmaaDoor.PNum Go.RowKit Go.Proofs.YtaimjdfeijgbmaaDoorW.PrintWords Go.Proofs.YtaimjdfeijgbmaaDoorW.PrintLast Go.Proofs.YtaimjdfeijgbmaaDoorW.PrintMore

theorem alive_row : num_Row.f [(⟨#[97, 98]⟩ : ByteArray), (⟨#[]⟩ : ByteArray)] = some ⟨#[2, 97, 98, 0]⟩ := by
  have e : rowU [(⟨#[97, 98]⟩ : ByteArray), (⟨#[]⟩ : ByteArray)] = [2, 97, 98, 0] := by
    simp only [rowU, List.flatMap_cons, List.flatMap_nil]
    rw [lenU, if_pos (by decide), lenU, if_pos (by decide)]
    rfl
  unfold num_Row.f
  rw [e]
  rfl
theorem alive_60 : hibernaclelaw01_numAlive.f 60 = some true := by
  unfold hibernaclelaw01_numAlive.f
  rw [alive_row]
  kernel_rfl
theorem decs_walk_long (n : Int) (s : ByteArray) (w : World) (hs : 2000 < s.size) : Calls Tryd.prog 3 #[.int .i64 n, .string s] w fun e w' => e = .returned (.bool true) ∧ Below w.heap.size w w' := by
  have c1 : decide (2000 < (s.size : Int)) = true := decide_eq_true (by omega)
  have c2 : decide (2000 < s.size) = true := decide_eq_true (by omega)
  go_enter Tryd.func3, Tryd.ntmps3
  go_wp2_with fail
  refine (hibernaclelaw01_numAlive.calls 60 true _ alive_60).mono ?_
  rintro e w1 ⟨rfl, hb1⟩
  go_wp2_with fail
  go_ret
  exact ⟨rfl, hb1⟩
set_option maxHeartbeats 2000000 in
theorem decs_walk (n : Int) (h0 : -9223372036854775808 ≤ n) (h1 : n ≤ 9223372036854775807) (s : ByteArray) (w : World) (hl : Laid w) (hs : s.size ≤ 2000) :
    Calls Tryd.prog 3 #[.int .i64 n, .string s] w fun e w' => e = .returned (.bool true) ∧ Below w.heap.size w w' := by
  have c1 : decide (2000 < (s.size : Int)) = false := decide_eq_false (by omega)
  have c2 : decide (2000 < s.size) = false := decide_eq_false (by omega)
  have hds := dec_size n h0 h1
  go_enter Tryd.func3, Tryd.ntmps3
  go_wp2_with fail
  refine (hibernaclelaw01_numAlive.calls 60 true _ alive_60).mono ?_
  rintro e w1 ⟨rfl, hb1⟩
  have hl1 := hl.below hb1
  go_wp2_with fail
  refine (int_any s (by omega) _ hl1).mono ?_
  rintro e w2 ⟨rfl, hb2⟩
  replace hb2 := hb1.trans (hb2.mono hb1.size)
  have hl2 := hl.below hb2
  clear hb1 hl1
  generalize hi : int s = r
  obtain ⟨m, ok⟩ := r
  go_wp2_with fail
  refine (hibernacleref01_Int.calls 200 s m ok _ (by rw [ref_int s 200 (by omega), hi])).mono ?_
  rintro e w3 ⟨rfl, hb3⟩
  replace hb3 := hb2.trans (hb3.mono hb2.size)
  have hl3 := hl.below hb3
  clear hb2 hl2
  go_wp2_with fail
  refine (dec_any n h0 h1 _ hl3).mono ?_
  rintro e w4 ⟨rfl, hb4⟩
  replace hb4 := hb3.trans (hb4.mono hb3.size)
  have hl4 := hl.below hb4
  clear hb3 hl3
  go_wp2_with fail
  refine (int_any (dec n) (by omega) _ hl4).mono ?_
  rintro e w5 ⟨rfl, hb5⟩
  rw [int_dec n h0 h1]
  replace hb5 := hb4.trans (hb5.mono hb4.size)
  have hl5 := hl.below hb5
  clear hb4 hl4
  have e1 : ((dec n).toList == (dec n).toList) = true := beq_self_eq_true _
  have e2 : (m == m) = true := beq_self_eq_true _
  have e3 : (ok == ok) = true := beq_self_eq_true _
  have e4 : (n == n) = true := beq_self_eq_true _
  go_wp2_with fail
  refine (dec_any n h0 h1 _ hl5).mono ?_
  rintro e w6 ⟨rfl, hb6⟩
  replace hb6 := hb5.trans (hb6.mono hb5.size)
  have hl6 := hl.below hb6
  clear hb5 hl5
  go_wp2_with fail
  refine (hibernacleref01_Dec.calls 100 n (dec n) _ (ref_dec n h0 h1 100 (by omega))).mono ?_
  rintro e w7 ⟨rfl, hb7⟩
  replace hb7 := hb6.trans (hb7.mono hb6.size)
  have hl7 := hl.below hb7
  clear hb6 hl6
  cases ok with
  | false =>
    go_wp2_with fail
    go_ret
    exact ⟨rfl, hb7⟩
  | true =>
    rcases int_parts s with ⟨v, v0, v1, hv, he⟩ | ⟨he, _⟩
    · rw [hi] at he
      obtain rfl : m = v := by injection he
      have e5 : ((dec m).toList == s.toList) = true := by rw [hv]; exact beq_self_eq_true _
      go_wp2_with fail
      refine (dec_any m v0 v1 _ hl7).mono ?_
      rintro e w8 ⟨rfl, hb8⟩
      replace hb8 := hb7.trans (hb8.mono hb7.size)
      go_wp2_with fail
      go_ret
      exact ⟨rfl, hb8⟩
    · rw [hi] at he
      exact absurd (congrArg Prod.snd he) (by simp)
theorem decs_all (n : Int) (h0 : -9223372036854775808 ≤ n) (h1 : n ≤ 9223372036854775807) (s : ByteArray) (w : World) (hl : Laid w) :
    Calls Tryd.prog 3 #[.int .i64 n, .string s] w fun e w' => e = .returned (.bool true) ∧ Below w.heap.size w w' := by
  by_cases h : s.size ≤ 2000
  · exact decs_walk n h0 h1 s w hl h
  · exact decs_walk_long n s w (by omega)
end Go.Proofs.YtaimjdfeijgbmaaDoor
