/- A snapshot and a message: what they are, and how they lie in memory. -/
import Derived.Test.YtokcmaehojljdaaDoorOpen
import Derived.Test.YtokcmaehojljdaaDoorRow
import Derived.Test.YtokcmaehojljdaaDoorPNum1
import Derived.Laws.StructEq
import Derived.Stop.BytesEq
namespace Go.Proofs.YtokcmaehojljdaaDoor
open Go.RowKit Go.Proofs.YtokcmaehojljdaaDoorW.PrintWords Go.Proofs.YtokcmaehojljdaaDoorW.PrintLast Go.Proofs.YtokcmaehojljdaaDoorW.PrintMore

structure Sn where
  mach : ByteArray
  n : Int
  at_ : Int
  clock : Int
  pages : Int
  blocks : Int
  l0 : List ByteArray
  l1 : List ByteArray
  l2 : List ByteArray
  sum : List UInt8
structure Ms where
  kind : Int
  data : ByteArray
  snap : Sn
  n : Int
  why : Int
def snL (s : Sn) (v0 v1 v2 : Value) : List Value := [.string s.mach, .int .i64 s.n, .int .i64 s.at_, .int .u64 s.clock, .int .i64 s.pages, .int .i64 s.blocks, v0, v1, v2] ++ Lib.byteCells s.sum
def msL (m : Ms) (v0 v1 v2 : Value) : List Value := [.int .i64 m.kind, .string m.data] ++ (snL m.snap v0 v1 v2 ++ [.int .i64 m.n, .int .i64 m.why])
/-- The lists and the sum that a snapshot holds, in this world. -/
structure SnOk (w : World) (s : Sn) (v0 v1 v2 : Value) : Prop where
  h0 : TextsAt w v0 s.l0
  h1 : TextsAt w v1 s.l1
  h2 : TextsAt w v2 s.l2
  hs : s.sum.length = 32
  hm : s.mach.size ≤ 140737488351232
  hn : -9223372036854775808 ≤ s.n ∧ s.n ≤ 9223372036854775807
  hat : -9223372036854775808 ≤ s.at_ ∧ s.at_ ≤ 9223372036854775807
  hc : 0 ≤ s.clock ∧ s.clock ≤ 18446744073709551615
  hp : -9223372036854775808 ≤ s.pages ∧ s.pages ≤ 9223372036854775807
  hb : -9223372036854775808 ≤ s.blocks ∧ s.blocks ≤ 9223372036854775807
structure MsOk (w : World) (m : Ms) (v0 v1 v2 : Value) : Prop where
  snap : SnOk w m.snap v0 v1 v2
  hk : -9223372036854775808 ≤ m.kind ∧ m.kind ≤ 9223372036854775807
  hd : m.data.size ≤ 140737488351232
  hn : -9223372036854775808 ≤ m.n ∧ m.n ≤ 9223372036854775807
  hw : -9223372036854775808 ≤ m.why ∧ m.why ≤ 9223372036854775807
theorem TextsAt.below {w w' : World} {v : Value} {l : List ByteArray} (h : TextsAt w v l) (hb : Below w.heap.size w w') : TextsAt w' v l := by
  obtain ⟨A, c, h1, h2, h3, h4⟩ := h
  exact ⟨A, c, h1, h2, Kd.C_below h3 hb, h4⟩
theorem SnOk.below {w w' : World} {s : Sn} {v0 v1 v2 : Value} (h : SnOk w s v0 v1 v2) (hb : Below w.heap.size w w') : SnOk w' s v0 v1 v2 :=
  ⟨h.h0.below hb, h.h1.below hb, h.h2.below hb, h.hs, h.hm, h.hn, h.hat, h.hc, h.hp, h.hb⟩
theorem MsOk.below {w w' : World} {m : Ms} {v0 v1 v2 : Value} (h : MsOk w m v0 v1 v2) (hb : Below w.heap.size w w') : MsOk w' m v0 v1 v2 := ⟨h.snap.below hb, h.hk, h.hd, h.hn, h.hw⟩
theorem snL_len {s : Sn} {v0 v1 v2 : Value} (h : s.sum.length = 32) : (snL s v0 v1 v2).length = 41 := by simp [snL, Lib.byteCells_length, h]
theorem msL_len {m : Ms} {v0 v1 v2 : Value} (h : m.snap.sum.length = 32) : (msL m v0 v1 v2).length = 45 := by simp [msL, snL_len h]
theorem Row.at_ {w : World} {b t : Nat} {L : List Value} (h : Row w b t L.toArray) (j : Nat) : w.cell? ⟨b, j, none⟩ = L[j]? := h.get.trans (by simp)

/-! ### Loads -/
theorem run_load_list {P : Program} (w : World) (b o : Nat) (t ty : TypeId) (L V : List Value) (d : TypeDesc) (hg : Row w b t L.toArray)
    (hp : ∀ j v, V[j]? = some v → L[o + j]? = some v) (hu : P.underlying ty = some d) (hd : (match d with | .struct _ | .array _ _ => true | _ => false) = true)
    (hi : (P.info? ty).map (·.size) = some V.length) : (loadVar ty ⟨b, o, none⟩).run P w = .ok (.agg V.toArray) w := by
  have hl : (loadCells ⟨b, o, none⟩ V.length).run P w = .ok V.toArray w :=
    run_loadCells_list (P := P) w ⟨b, o, none⟩ V (fun j v hv => by
      have hadd : (⟨b, o, none⟩ : Addr).add j = ⟨b, o + j, none⟩ := by unfold Addr.add; split <;> simp_all
      rw [hadd, hg.at_, hp j v hv])
  cases hq : P.info? ty with
  | none => simp [hq] at hi
  | some i =>
    have hs : i.size = V.length := by simpa [hq] using hi
    have hagg : (isAgg ty).run P w = .ok true w := by
      unfold isAgg
      rw [Sem.run_bind, run_underlying hu w]
      cases d <;> simp_all
    simp [loadVar, Sem.run_bind, hagg, sizeOf, typeInfo, hq, hs, hl]
theorem wp_load_list {P : Program} {o : Oper} {a : Act} {w : World} {K : Act → World → Prop} {Q : Exit → Act → World → Prop} (ty : TypeId) (x : Operand) (ho : o.op = .load ty x)
    (b off : Nat) (hx : a.eval x = .pointer (some ⟨b, off, none⟩)) (V : Array Value) (hl : (loadVar ty ⟨b, off, none⟩).run P w = .ok (.agg V) w)
    (h : K (a.put o.dst (.agg V)) w) : o.wp P a w K Q := by
  unfold Oper.wp execOp
  simp only [ho, hx, Instr.loadAt, Instr.sureAddr, Sem.run_bind, Sem.run_pure, Result.andThen_ok, hl]
  exact h
theorem wpList_load_list {P : Program} {ops : Array Oper} {rest : List Oper} {o : Oper} {a : Act} {w : World} {Q : Exit → Act → World → Prop} (hw : Region.wanted o (yielded ops a.tmps) = true) (ty : TypeId) (x : Operand) (ho : o.op = .load ty x)
    (b off : Nat) (hx : a.eval x = .pointer (some ⟨b, off, none⟩)) (V : Array Value) (hl : (loadVar ty ⟨b, off, none⟩).run P w = .ok (.agg V) w)
    (h : wpList P ops Q rest (a.put o.dst (.agg V)) w) : wpList P ops Q (o :: rest) a w :=
  wpList_step fun K hK => by
    rw [if_pos hw]
    exact wp_load_list ty x ho b off hx V hl (hK _ _ h)
theorem wq_load_list {P : Program} {ops : Array Oper} {C : World → Prop} {K : Act → Prop} {a : Act} {o : Oper} (hw : Region.wanted o (yielded ops a.tmps) = true) (ty : TypeId) (x : Operand) (ho : o.op = .load ty x)
    (b off : Nat) (hx : a.eval x = .pointer (some ⟨b, off, none⟩)) (V : Array Value) (hl : ∀ w, C w → (loadVar ty ⟨b, off, none⟩).run P w = .ok (.agg V) w)
    (hn : K (a.put o.dst (.agg V))) : if Region.wanted o (yielded ops a.tmps) then o.quiet P a C K else K (a.put o.dst undef) :=
  wq_value hw (fun w hC => by
    unfold execOp
    simp only [ho, hx, Instr.loadAt, Instr.sureAddr, Sem.run_bind, Sem.run_pure, Result.andThen_ok, hl w hC]) hn
theorem sn_whole {w : World} {b : Nat} {s : Sn} {v0 v1 v2 : Value} (h : Row w b 28 (snL s v0 v1 v2).toArray) (hs : s.sum.length = 32) : (loadVar 28 ⟨b, 0, none⟩).run Tryd.prog w = .ok (.agg (snL s v0 v1 v2).toArray) w :=
  run_load_list w b 0 28 28 _ _ _ h (fun j v hv => by rw [Nat.zero_add]; exact hv) Tryd.underlying28 rfl (by rw [snL_len hs]; kernel_rfl)
theorem ms_whole {w : World} {b : Nat} {m : Ms} {v0 v1 v2 : Value} (h : Row w b 31 (msL m v0 v1 v2).toArray) (hs : m.snap.sum.length = 32) : (loadVar 31 ⟨b, 0, none⟩).run Tryd.prog w = .ok (.agg (msL m v0 v1 v2).toArray) w :=
  run_load_list w b 0 31 31 _ _ _ h (fun j v hv => by rw [Nat.zero_add]; exact hv) Tryd.underlying31 rfl (by rw [msL_len hs]; kernel_rfl)
theorem ms_snap {w : World} {b : Nat} {m : Ms} {v0 v1 v2 : Value} (h : Row w b 31 (msL m v0 v1 v2).toArray) (hs : m.snap.sum.length = 32) : (loadVar 28 ⟨b, 2, none⟩).run Tryd.prog w = .ok (.agg (snL m.snap v0 v1 v2).toArray) w :=
  run_load_list w b 2 31 28 _ _ _ h (fun j v hv => by
    have hj := (List.getElem?_eq_some_iff.1 hv).1
    rw [msL, List.getElem?_append_right (by simp), List.getElem?_append_left (by simp; omega)]
    simpa using hv) Tryd.underlying28 rfl (by rw [snL_len hs]; kernel_rfl)
theorem sn_sum {w : World} {b : Nat} {s : Sn} {v0 v1 v2 : Value} (h : Row w b 28 (snL s v0 v1 v2).toArray) (hs : s.sum.length = 32) : (loadVar 26 ⟨b, 9, none⟩).run Tryd.prog w = .ok (.agg (Lib.byteCells s.sum).toArray) w :=
  run_load_list w b 9 28 26 _ _ _ h (fun j v hv => by
    rw [snL, List.getElem?_append_right (by simp)]
    simpa using hv) Tryd.underlying26 rfl (by rw [Lib.byteCells_length, hs]; kernel_rfl)
/-- '==' of two digests. -/
theorem sum_eq (w : World) (xs ys : List UInt8) (hx : xs.length = 32) (hy : ys.length = 32) : (binOp .eql 26 (.agg (Lib.byteCells xs).toArray) (.agg (Lib.byteCells ys).toArray)).run Tryd.prog w = .ok (.bool (xs == ys)) w :=
  run_eql_bytes (P := Tryd.prog) (w := w) 26 5 32 Tryd.underlying26 Tryd.underlying5 (fun w => by kernel_rfl) xs ys hx hy
theorem wpList_value {P : Program} {ops : Array Oper} {rest : List Oper} {o : Oper} {a : Act} {w : World} {Q : Exit → Act → World → Prop} {v : Value} (hw : Region.wanted o (yielded ops a.tmps) = true)
    (h : (execOp a.eval o).run P w = .ok (.value v) w) (hn : wpList P ops Q rest (a.put o.dst v) w) : wpList P ops Q (o :: rest) a w :=
  wpList_step fun K hK => by
    rw [if_pos hw]
    unfold Oper.wp
    rw [h]
    exact hK _ _ hn
theorem zero_sum : (Lib.byteCells (List.replicate 32 0)).toArray = Array.replicate 32 (.int .u8 0) := by
  rfl
end Go.Proofs.YtokcmaehojljdaaDoor
