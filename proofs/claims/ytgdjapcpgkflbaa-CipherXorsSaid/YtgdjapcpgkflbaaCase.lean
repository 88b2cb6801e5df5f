/- A statement's Case (a key, a nonce, a number): in memory, and as an argument. -/
import Derived.Test.YtgdjapcpgkflbaaFixed
import Derived.Test.YtgdjapcpgkflbaaXor
import Derived.Test.YtgdjapcpgkflbaaQuiet
import Derived.Test.YtgdjapcpgkflbaaOpen
namespace Go.Proofs.Ytgdjapcpgkflbaa
open Go.ChangeShapes Go.WideShapes Go.ChangeAt Go.RowKit
open Cc (g)

theorem run_loadVar_part {P : Program} (w : World) (b o : Nat) (t ty : TypeId) (A : Array Value) (fr : Nat × Nat) (k : IntKind) (L : List Nat) (d : TypeDesc) (hg : w.heap[b]? = some (.cells A t fr))
    (hp : ∀ j, j < L.length → A[o + j]? = some (.int k (g L j : Nat))) (hu : P.underlying ty = some d) (hd : (match d with | .struct _ | .array _ _ => true | _ => false) = true)
    (hi : (P.info? ty).map (·.size) = some L.length) : (loadVar ty ⟨b, o, none⟩).run P w = .ok (.agg (vs k L)) w := by
  have hl : (loadCells ⟨b, o, none⟩ (vs k L).toList.length).run P w = .ok (vs k L).toList.toArray w :=
    run_loadCells_list (P := P) w ⟨b, o, none⟩ (vs k L).toList (fun j v hv => by
      have hj : j < L.length := by
        have := (List.getElem?_eq_some_iff.1 hv).1
        simpa [vs] using this
      have hadd : (⟨b, o, none⟩ : Addr).add j = ⟨b, o + j, none⟩ := by unfold Addr.add; split <;> simp_all
      rw [hadd, cell_of_row w b (o + j) A t fr hg, hp j hj, ← hv, Array.getElem?_toList, vs_get hj])
  cases hq : P.info? ty with
  | none => simp [hq] at hi
  | some i =>
    have hs : i.size = L.length := by simpa [hq] using hi
    have hagg : (isAgg ty).run P w = .ok true w := by
      unfold isAgg
      rw [Sem.run_bind, run_underlying hu w]
      cases d <;> simp_all
    simp only [Array.length_toList, Array.toArray_toList, vs_size] at hl
    simp [loadVar, Sem.run_bind, hagg, sizeOf, typeInfo, hq, hs, hl]

theorem wp_load_part {P : Program} {o : Oper} {a : Act} {w : World} {K : Act → World → Prop} {Q : Exit → Act → World → Prop} (ty : TypeId) (x : Operand) (ho : o.op = .load ty x)
    (b off : Nat) (hx : a.eval x = .pointer (some ⟨b, off, none⟩)) (k : IntKind) (L : List Nat) (hl : (loadVar ty ⟨b, off, none⟩).run P w = .ok (.agg (vs k L)) w)
    (h : K (a.put o.dst (.agg (vs k L))) w) : o.wp P a w K Q := by
  unfold Oper.wp execOp
  simp only [ho, hx, Instr.loadAt, Instr.sureAddr, Sem.run_bind, Sem.run_pure, Result.andThen_ok, hl]
  exact h
theorem wpList_load_part {P : Program} {ops : Array Oper} {rest : List Oper} {o : Oper} {a : Act} {w : World} {Q : Exit → Act → World → Prop} (hw : Region.wanted o (yielded ops a.tmps) = true) (ty : TypeId) (x : Operand) (ho : o.op = .load ty x)
    (b off : Nat) (hx : a.eval x = .pointer (some ⟨b, off, none⟩)) (k : IntKind) (L : List Nat) (hl : (loadVar ty ⟨b, off, none⟩).run P w = .ok (.agg (vs k L)) w)
    (h : wpList P ops Q rest (a.put o.dst (.agg (vs k L))) w) : wpList P ops Q (o :: rest) a w :=
  wpList_step fun K hK => by
    rw [if_pos hw]
    exact wp_load_part ty x ho b off hx k L hl (hK _ _ h)
theorem wq_load_part {P : Program} {ops : Array Oper} {C : World → Prop} {K : Act → Prop} {a : Act} {o : Oper} (hw : Region.wanted o (yielded ops a.tmps) = true) (ty : TypeId) (x : Operand) (ho : o.op = .load ty x)
    (b off : Nat) (hx : a.eval x = .pointer (some ⟨b, off, none⟩)) (k : IntKind) (L : List Nat) (hl : ∀ w, C w → (loadVar ty ⟨b, off, none⟩).run P w = .ok (.agg (vs k L)) w)
    (hn : K (a.put o.dst (.agg (vs k L)))) : if Region.wanted o (yielded ops a.tmps) then o.quiet P a C K else K (a.put o.dst undef) :=
  wq_value hw (fun w hC => by
    unfold execOp
    simp only [ho, hx, Instr.loadAt, Instr.sureAddr, Sem.run_bind, Sem.run_pure, Result.andThen_ok, hl w hC]) hn

/-! ### A Case -/
def caseA (key nonce : List Nat) (n : Nat) : Array Value := vs .u8 key ++ vs .u8 nonce ++ #[.int .u32 n]
/-- Block b holds a Case. -/
structure CRow (w : World) (b : Nat) (key nonce : List Nat) (n : Nat) : Prop where
  row : Row w b 31 (caseA key nonce n)
  hk : key.length = 32
  hn : nonce.length = 12
  hkl : ∀ x ∈ key, x < 256
  hnl : ∀ x ∈ nonce, x < 256
  hnn : n < 4294967296
namespace CRow
variable {w : World} {b : Nat} {key nonce : List Nat} {n : Nat}
theorem kept (h : CRow w b key nonce n) {w' : World} {B : Nat} (hb : Below B w w') (hB : b < B) : CRow w' b key nonce n := ⟨h.row.below hb hB, h.hk, h.hn, h.hkl, h.hnl, h.hnn⟩
theorem key_ (h : CRow w b key nonce n) : (loadVar 23 ⟨b, 0, none⟩).run Try.prog w = .ok (.agg (vs .u8 key)) w :=
  run_loadVar_part w b 0 31 23 _ _ .u8 key _ h.row (fun j hj => by
    rw [Nat.zero_add, caseA, Array.getElem?_append_left (by simp [vs_size]; omega), Array.getElem?_append_left (by simp [vs_size]; omega), vs_get hj]) Try.underlying23 rfl (by rw [h.hk]; kernel_rfl)
theorem nonce_ (h : CRow w b key nonce n) : (loadVar 24 ⟨b, 32, none⟩).run Try.prog w = .ok (.agg (vs .u8 nonce)) w :=
  run_loadVar_part w b 32 31 24 _ _ .u8 nonce _ h.row (fun j hj => by
    rw [caseA, Array.getElem?_append_left (by simp [vs_size, h.hk]; omega), Array.getElem?_append_right (by simp [vs_size, h.hk]), vs_size, h.hk, Nat.add_sub_cancel_left, vs_get hj]) Try.underlying24 rfl (by rw [h.hn]; kernel_rfl)
theorem n_ (h : CRow w b key nonce n) : w.cell? ⟨b, 44, none⟩ = some (.int .u32 n) := by
  rw [h.row.get, caseA, Array.getElem?_append_right (by simp [vs_size, h.hk, h.hn])]
  simp [vs_size, h.hk, h.hn]
end CRow

section
variable {H : Type} {enc : TypeId × Value → H} {w : World} {base : Nat} {spare : Nat → Bool} {held : Bool}
theorem open_case {r : Reach} {b : Nat} {v : Value} {d : DataW H} {p : List MemPlace} (hval : Value.okWide Try.prog w r b 31 v) (h : DataW.Trod enc Try.prog w base spare held 31 v d p) :
    ∃ (key nonce : List Nat) (n : Nat), v = .agg (caseA key nonce n) ∧ key.length = 32 ∧ nonce.length = 12 ∧ (∀ x ∈ key, x < 256) ∧ (∀ x ∈ nonce, x < 256) ∧ n < 4294967296 := by
  obtain ⟨cs, rfl, hsz⟩ := okWide_struct Try.underlying31 hval
  obtain ⟨fuel, hf⟩ := h
  obtain ⟨xs, m, rfl, hx, hl, hxl, hi⟩ := DataW.trod_struct Try.underlying31 hf
  have c31 : Try.prog.cellsOf 31 = 45 := by kernel_rfl
  have c23 : Try.prog.cellsOf 23 = 32 := by kernel_rfl
  have c24 : Try.prog.cellsOf 24 = 12 := by kernel_rfl
  have c25 : Try.prog.cellsOf 25 = 1 := by kernel_rfl
  have h0 := hi 0 _ rfl
  have h1 := hi 1 _ rfl
  have h2 := hi 2 _ rfl
  have hxl' : xs.length = 3 := hxl
  rw [List.getElem?_eq_getElem (by omega)] at h0 h1 h2
  have e0 := trod_u8s Try.underlying23 Try.underlying5 (by kernel_rfl) c23 h0
  have e1 := trod_u8s Try.underlying24 Try.underlying5 (by kernel_rfl) c24 h1
  obtain ⟨k, hk, _, hw⟩ := DataW.trod_int Try.underlying25 h2
  obtain ⟨key, hk1, hk2, hk3, _⟩ := e0
  obtain ⟨nonce, hn1, hn2, hn3, _⟩ := e1
  have hb := bounds_u32 hw
  obtain ⟨n, rfl⟩ := Int.eq_ofNat_of_zero_le hb.1
  refine ⟨key, nonce, n, ?_, hk2, hn2, hk3, hn3, by omega⟩
  congr 1
  rw [← Array.toList_inj]
  have hcl : cs.toList.length = 45 := by rw [Array.length_toList, hsz, c31]
  simp only [Value.cells] at hk1 hn1 hk
  have a1 : cs.toList.take 32 = (vs .u8 key).toList := by
    have := congrArg Array.toList hk1
    simpa [c23] using this
  have a2 : (cs.toList.drop 32).take 12 = (vs .u8 nonce).toList := by
    have := congrArg Array.toList hn1
    simpa [c24] using this
  have a3 : cs.toList.drop 44 = [.int .u32 (n : Int)] := by
    have e : (cs.toList.drop 44).take 1 = [.int .u32 (n : Int)] := by simpa [c25] using hk
    rwa [List.take_of_length_le (by simp; omega)] at e
  have : cs.toList = cs.toList.take 32 ++ ((cs.toList.drop 32).take 12 ++ cs.toList.drop 44) := by
    rw [show (44 : Nat) = 32 + 12 from rfl, ← List.drop_drop, List.take_append_drop, List.take_append_drop]
  rw [this, a1, a2, a3]
  simp [caseA]
end
end Go.Proofs.Ytgdjapcpgkflbaa
