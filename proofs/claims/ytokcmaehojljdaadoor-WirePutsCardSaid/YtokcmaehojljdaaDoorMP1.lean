/- One text of several: LaidAll; K; Quiet; Open; PNum1; Builder; Row; Snap; HashOf; RefHex. -/
import Derived.Test.YtokcmaehojljdaaDoorRows
import Derived.Test.YtokcmaehojljdaaDoorCards
import Derived.Test.YtokcmaehojljdaaDoorTie
import Derived.Test.YtokcmaehojljdaaDoorMP0
import Derived.WalkKit
import Derived.ProofKit
import Derived.LaidMore
import Derived.OpenShut
import Derived.Stop.Joined
import Derived.ShutString
import Derived.Below
import Derived.ChangeOld
import Derived.Carry
import Derived.SizedLaws
import Derived.SevenTiedAt
import Derived.Laws.Tables
import Derived.Deep.Draws
import Derived.StillTailTactics
import Derived.Laws.BytesArg
import Derived.Deep.QuietTactic
import Derived.Laws.StructEq
import Derived.SliceStrings
import Derived.Deep.Slices
import Derived.Stop.BytesEq
import Derived.BigQuiet
import Derived.Laws.ResultCell

/- What start-up lays: the table and the two errors, out of a card's row. -/
namespace Go.Proofs.YtokcmaehojljdaaDoor
open Go.ChangeShapes Go.WideShapes Go.ChangeAt Go.RowKit

theorem own : ownKnob Tryd.prog.godebug = none := by kernel_rfl
theorem laidOut : laidOutB Tryd.prog = true := by kernel_rfl
abbrev L5 : List (String × DataW Unit) := Rows.wireCutsRow.laid
theorem gRng : Tryd.prog.globalNamed "strconv.ErrRange" = some 2 := by kernel_rfl
theorem gSyn : Tryd.prog.globalNamed "strconv.ErrSyntax" = some 1 := by kernel_rfl
theorem tTab : (Tryd.prog.globals[0]?).map (·.type) = some 118 := by kernel_rfl
theorem tRng : (Tryd.prog.globals[2]?).map (·.type) = some 68 := by kernel_rfl
theorem tSyn : (Tryd.prog.globals[1]?).map (·.type) = some 68 := by kernel_rfl
theorem door_met (os : Os) (args : Array Value) : laidMetH Tryd.prog L5 ((World.doorLaid Tryd.prog 400 os).forCall (fun _ _ => 0) ⟨#[], args, []⟩).memory :=
  laidMetH_of_parts3 (fuel := 8) (laidMet_of_run' 8 (by kernel_rfl) (by kernel_rfl)) (by kernel_rfl) (by kernel_rfl)
theorem iface_cell {P : Program} {w : World} {fuel : Nat} {t : TypeId} {ms : Array (String × TypeId)} {cs : List Value} {n : String} {d : DataW Unit} {p : List MemPlace} (ht : P.underlying t = some (.interface ms))
    (h : DataW.trod (fun _ => ()) P w 0 (fun _ => true) false fuel t cs = some (.iface n d, p)) : ∃ u v, cs = [.iface u v] := by
  cases fuel with
  | zero => simp [DataW.trod] at h
  | succ m =>
    unfold DataW.trod at h
    rw [ht] at h
    split at h <;> simp_all
theorem one_cell {cs : Array Value} {v : Value} (h : cs.toList = [v]) : cs[0]? = some v := by
  obtain ⟨l⟩ := cs
  subst h
  rfl
theorem of_laid {W : World} (h : laidMetH Tryd.prog L5 W) : LaidE W := by
  rw [MakeChecks.laidMetH_plain _ _ _ (by kernel_rfl)] at h
  obtain ⟨ps, ⟨_, _, _, _, _, _, _, _, _, _, ⟨_, _, _, _, _, _, _, _, _, _, ⟨ga, ta, ca, fa, pa, qa, hga, hta, hva, hda, ⟨gb, tb, cb, fb, pb, qb, hgb, htb, hvb, hdb, ⟨gc, tc, cc, fc, pc, qc, hgc, htc, hvc, hdc, _, _⟩, _⟩, _⟩, _⟩, _⟩, _, _⟩ := h
  obtain rfl := Option.some.inj (gTab.symm.trans hga)
  obtain rfl := Option.some.inj (gRng.symm.trans hgb)
  obtain rfl := Option.some.inj (gSyn.symm.trans hgc)
  obtain rfl := Option.some.inj (tTab.symm.trans hta)
  obtain rfl := Option.some.inj (tRng.symm.trans htb)
  obtain rfl := Option.some.inj (tSyn.symm.trans htc)
  refine ⟨⟨?_⟩, ?_, ?_⟩
  · have e := Lib.cells_of_tab (zs := Lib.pow10Tab) (k := .u64) Tryd.underlying118 Tryd.underlying22 (by kernel_rfl) (by kernel_rfl) hda
    unfold Lib.TabIs
    rw [hva, ← e]
  · obtain ⟨u, v, e⟩ := iface_cell Tryd.underlying68 hdc
    exact ⟨_, (World.var?_cell gSyn hvc 0).trans (one_cell e), .inr ⟨u, v, rfl⟩⟩
  · obtain ⟨u, v, e⟩ := iface_cell Tryd.underlying68 hdb
    exact ⟨_, (World.var?_cell gRng hvb 0).trans (one_cell e), .inr ⟨u, v, rfl⟩⟩
end Go.Proofs.YtokcmaehojljdaaDoor

/- Rows of numbers in memory: how they are read, written, and kept. Of any program. -/
namespace Go.Proofs.YtokcmaehojljdaaDoor
open Go.RowKit
def Cc.g (L : List Nat) (i : Nat) : Nat := L.getD i 0
open Cc (g)

/-- A fact that neither the walk's simp nor 'contradiction' looks into. -/
structure Sec (p : Prop) : Prop where mk :: (out : p)

def vs (k : IntKind) (L : List Nat) : Array Value := (L.map fun (x : Nat) => Value.int k (x : Int)).toArray
/-- Block b is a row of these cells, none frozen. -/
def Row (w : World) (b t : Nat) (A : Array Value) : Prop := w.heap[b]? = some (.cells A t (0, 0))

theorem vs_size (k : IntKind) (L : List Nat) : (vs k L).size = L.length := by simp [vs]
theorem vs_get {k : IntKind} {L : List Nat} {i : Nat} (h : i < L.length) : (vs k L)[i]? = some (.int k (g L i : Nat)) := by
  simp [vs, g, List.getElem?_eq_getElem h]
theorem vs_set (k : IntKind) (L : List Nat) (i v : Nat) : (vs k L).setIfInBounds i (.int k (v : Int)) = vs k (L.set i v) := by
  simp [vs, List.map_set]
theorem vs_one (k : IntKind) (L : List Nat) : ∀ v ∈ (vs k L).toList, v.oneCell' = true := by
  intro v hv
  simp only [vs, List.mem_map] at hv
  obtain ⟨x, _, rfl⟩ := hv
  rfl

theorem Row.lt {w : World} {b t : Nat} {A : Array Value} (h : Row w b t A) : b < w.heap.size := (Array.getElem?_eq_some_iff.1 h).1
theorem Row.get {w : World} {b t i : Nat} {A : Array Value} (h : Row w b t A) : w.cell? ⟨b, i, none⟩ = A[i]? := cell_of_row w b i A t _ h
theorem Row.cell {w : World} {b t i : Nat} {k : IntKind} {L : List Nat} (h : Row w b t (vs k L)) (hi : i < L.length) : w.cell? ⟨b, i, none⟩ = some (.int k (g L i : Nat)) := h.get.trans (vs_get hi)
theorem Row.free {w : World} {b t : Nat} {A : Array Value} (h : Row w b t A) (i : Nat) : w.frozen? ⟨b, i, none⟩ = false := frozen_of_row w b i A t h
theorem Row.put {w : World} {b t : Nat} {A : Array Value} (h : Row w b t A) (i : Nat) (v : Value) : Row (w.setCell ⟨b, i, none⟩ v) b t (A.setIfInBounds i v) := heap_setCell_same w b i A t v h
theorem Row.set {w : World} {b t : Nat} {k : IntKind} {L : List Nat} (h : Row w b t (vs k L)) (i v : Nat) : Row (w.setCell ⟨b, i, none⟩ (.int k (v : Int))) b t (vs k (L.set i v)) := by
  have := h.put i (.int k (v : Int))
  rwa [vs_set] at this
theorem Row.aside {w : World} {b t : Nat} {A : Array Value} (h : Row w b t A) {a : Addr} (ha : b ≠ a.block) (v : Value) : Row (w.setCell a v) b t A := (heap_setCell_other w a b v ha).trans h
theorem Row.alloc {w : World} {b t : Nat} {A : Array Value} (h : Row w b t A) (o : Obj) : Row (w.alloc o) b t A := (heap_alloc_old w o h.lt).trans h
theorem Row.drewN {w : World} {b t : Nat} {A : Array Value} (h : Row w b t A) (n : Nat) : Row (w.drewN n) b t A := h
theorem Row.drew {w : World} {b t : Nat} {A : Array Value} (h : Row w b t A) : Row w.drew b t A := h
theorem Row.new (w : World) (A : Array Value) (t : Nat) : Row (w.alloc (.cells A t)) w.heap.size t A := heap_alloc_new w _
theorem Row.grown {w w' : World} {b t : Nat} {A : Array Value} {r : Option Nat} (h : Row w b t A) (hg : w.grownBy w' r) (hr : some b ≠ r) : Row w' b t A := (hg.block b h.lt hr).trans h
theorem Row.below {w w' : World} {b t B : Nat} {A : Array Value} (h : Row w b t A) (hb : Below B w w') (hB : b < B) : Row w' b t A := (hb.block b hB).trans h
theorem Row.row {w : World} {b t : Nat} {A C : Array Value} (h : Row w b t A) : Row (w.setRow b C) b t C := setRow_heap w b A C t _ h
theorem Row.rowOther {w : World} {b b' t : Nat} {A : Array Value} (h : Row w b t A) (hb : b ≠ b') (C : Array Value) : Row (w.setRow b' C) b t A := (setRow_other w b' b C hb).trans h

theorem grown_refl (w : World) (r : Option Nat) : w.grownBy w r := ⟨rfl, rfl, rfl, Nat.le_refl _, fun _ _ _ => rfl⟩
theorem grown_trans {a b c : World} {r : Option Nat} (h : a.grownBy b r) (k : b.grownBy c r) : a.grownBy c r :=
  ⟨k.os.trans h.os, k.tape.trans h.tape, k.output.trans h.output, Nat.le_trans h.size k.size, fun i hi hr => (k.block i (Nat.lt_of_lt_of_le hi h.size) hr).trans (h.block i hi hr)⟩
theorem grown_alloc {a b : World} {r : Option Nat} (h : a.grownBy b r) (o : Obj) : a.grownBy (b.alloc o) r := grown_trans h (World.grownBy_alloc _ _ _)
theorem grown_set {a b : World} {r : Nat} (h : a.grownBy b (some r)) (i : Nat) (v : Value) : a.grownBy (b.setCell ⟨r, i, none⟩ v) (some r) :=
  ⟨h.os, h.tape, h.output, by simpa [World.setCell] using h.size, fun k hk hr => (heap_setCell_other b ⟨r, i, none⟩ k v (fun e => hr (by rw [e]))).trans (h.block k hk hr)⟩
theorem grown_drew {a b : World} {r : Option Nat} (h : a.grownBy b r) : a.grownBy b.drew r := ⟨h.os, h.tape, h.output, h.size, h.block⟩
theorem grown_drewN {a b : World} {r : Option Nat} (h : a.grownBy b r) (n : Nat) : a.grownBy (b.drewN n) r := ⟨h.os, h.tape, h.output, h.size, h.block⟩
theorem below_drewN' {B : Nat} {a b : World} (h : Below B a b) (n : Nat) : Below B a (b.drewN n) := ⟨h.os, h.tape, h.output, h.size, h.block⟩
theorem below_row {B b : Nat} {a w : World} (h : Below B a w) (hb : B ≤ b) (A : Array Value) : Below B a (w.setRow b A) :=
  ⟨h.os, h.tape, h.output, by simpa using h.size, fun k hk => (setRow_other w b k A (by omega)).trans (h.block k hk)⟩

/-- A byte of a text. -/
theorem run_index_text {P : Program} {t : TypeId} (ht : P.underlying t = some .string) (s : ByteArray) (L : List Nat) (hs : s.data.toList.map UInt8.toNat = L) (i : Int) (j : Nat) (hj : j < L.length) (hij : i = j) (w : World) :
    (Instr.index t (.string s) (.int .i64 i)).run P w = .ok (.int .u8 (g L j : Nat)) w := by
  subst hij
  have hl : j < s.size := by rw [← hs] at hj; simpa using hj
  have h1 : s[j]? = some (s[j]'hl) := by simp [hl]
  have h2 : g L j = (s[j]'hl).toNat := by
    subst hs
    unfold g
    have : j < s.data.toList.length := by simpa using hl
    simp only [List.getD_eq_getElem?_getD, List.getElem?_map, List.getElem?_eq_getElem this]
    rfl
  unfold Instr.index
  simp [asIntOf, run_underlying ht, h1, h2]

/-- The world under a name of its own. -/
theorem wp_abs {P : Program} {c : Code} {Q : Exit → Act → World → Prop} {a : Act} {w0 : World} (h : ∀ W, Sec (W = w0) → c.wp P Q a W) : c.wp P Q a w0 := h w0 ⟨rfl⟩
/-- A region that draws its order: n operations that leave the world alone, then the rest one by one. -/
theorem wp_region_tail {P : Program} {id : Nat} {Q : Exit → Act → World → Prop} {a : Act} {w : World} {l : List Oper} (n : Nat) (hm : P.follows .mixedOrders = true) (hB : Region.lexTailB .any l.toArray n = true)
    (h : wpStill P l.toArray w.drew (fun a' => wpList P l.toArray Q (l.drop n) a' w.drew) (l.take n) a) : (Code.region id l.toArray true).wp P Q a w := wp_region_still_tail n hm hB h
theorem wpList_abs {P : Program} {ops : Array Oper} {l : List Oper} {Q : Exit → Act → World → Prop} {a : Act} {w0 : World} (h : ∀ W, Sec (W = w0) → wpList P ops Q l a W) : wpList P ops Q l a w0 := h w0 ⟨rfl⟩
theorem size_alloc (w : World) (o : Obj) : (w.alloc o).heap.size = w.heap.size + 1 := by show (w.heap.push o).size = _; simp
theorem size_setCell (w : World) (a : Addr) (v : Value) : (w.setCell a v).heap.size = w.heap.size := by simp [World.setCell]
theorem calls_flip {P : Program} {f : FuncId} {args : Array Value} {w : World} {v : Ending} (h : Calls P f args w fun e w' => e = v ∧ w = w') : Calls P f args w fun e w' => e = v ∧ w' = w :=
  h.mono fun _ _ ⟨h1, h2⟩ => ⟨h1, h2.symm⟩
theorem Row.new1 (w : World) (o : Obj) (A : Array Value) (t : Nat) : Row ((w.alloc o).alloc (.cells A t)) (w.heap.size + 1) t A := heap_alloc2_new w o _
theorem vs_all (k : IntKind) (L : List Nat) : (vs k L).all (·.oneCell') = true := by
  simp only [vs, List.all_toArray, List.all_eq_true, List.mem_map]
  rintro v ⟨x, _, rfl⟩
  rfl

/-- 'a[l:]' of an array of n one-cell elements. -/
theorem run_sliceAt_low {P : Program} {t e : TypeId} {n : Nat} (ht : P.underlying t = some (.array n e)) (he : (P.info? e).map (·.size) = some 1) (b l : Nat) (x : Int) (hx : x = l) (hl : l < n) (w : World) :
    (Instr.sliceAt t (.pointer (some ⟨b, 0, none⟩)) (some (.int .i64 x)) none none).run P w = .ok (.slice (some ⟨b, l, none⟩) (n - l) (n - l)) w := by
  subst hx
  have hu : P.underlying t = some (.array (P.arrayLen t) (P.elem t)) := by simp [Program.arrayLen, Program.elem, ht]
  have h1 : P.arrayLen t = n := by simp [Program.arrayLen, ht]
  have h2 : P.elem t = e := by simp [Program.elem, ht]
  cases hq : P.info? e with
  | none => simp [hq] at he
  | some i =>
    have hs : i.size = 1 := by simpa [hq] using he
    rw [run_sliceAt_array_l w t ⟨b, 0, none⟩ hu .i64 l (by omega) (by rw [h1]; omega), h1, h2]
    simp [sizeOf, typeInfo, hq, hs, slicedAt, show ¬ n = l by omega, Addr.add_lit]

/-! ### Texts as lists of numbers -/
def bytes (s : ByteArray) : List Nat := s.data.toList.map UInt8.toNat
def txt (L : List Nat) : ByteArray := ⟨(L.map UInt8.ofNat).toArray⟩
theorem bytes_txt {L : List Nat} (h : ∀ x ∈ L, x < 256) : bytes (txt L) = L := by
  unfold bytes txt
  simp only [List.map_map]
  have : ∀ x ∈ L, (UInt8.toNat ∘ UInt8.ofNat) x = id x := fun x hx => by
    have := h x hx
    simp
    omega
  rw [List.map_congr_left this, List.map_id]
theorem txt_bytes (s : ByteArray) : txt (bytes s) = s := by
  unfold bytes txt
  have : (UInt8.ofNat ∘ UInt8.toNat) = id := funext fun x => by simp
  rw [List.map_map, this, List.map_id]
theorem bytes_lt (s : ByteArray) : ∀ x ∈ bytes s, x < 256 := by
  intro x hx
  simp only [bytes, List.mem_map] at hx
  obtain ⟨y, _, rfl⟩ := hx
  exact y.toNat_lt
theorem bytes_len (s : ByteArray) : (bytes s).length = s.size := by simp [bytes]
theorem txt_size (L : List Nat) : (txt L).size = L.length := by simp [txt, ByteArray.size]
/-- A part of a row of bytes as a text. -/
theorem run_text_of_row {P : Program} {src e dst : TypeId} (hs : P.underlying src = some (.slice e)) (he : P.underlying e = some (.int .u8)) (hd : P.underlying dst = some .string)
    {w : World} {b t o n : Nat} {L : List Nat} (h : Row w b t (vs .u8 L)) (hn : o + n ≤ L.length) (c : Nat) :
    (convert src dst (.slice (some ⟨b, o, none⟩) n c)).run P w = .ok (.string (txt ((L.drop o).take n))) w := by
  have hl : (((L.drop o).take n).map fun x : Nat => (x : Int)).length = n := by simp; omega
  have key := run_convert_bytes_arg w src e hs he b o n c (((L.drop o).take n).map fun x : Nat => (x : Int)) hl (fun j hj => by
    rw [h.cell (by omega)]
    congr 2
    simp only [g, List.getD_eq_getElem?_getD, List.getElem?_map, List.getElem?_take, List.getElem?_drop]
    rw [if_pos hj, List.getElem?_eq_getElem (by omega)]
    rfl) dst hd
  rw [key]
  congr 2
  unfold strOfNums txt
  simp [Function.comp_def]
end Go.Proofs.YtokcmaehojljdaaDoor

/- A region that draws its order, whose calls may make memory but turn nothing that was there: one walk in the text's order. -/
namespace Go.Proofs.YtokcmaehojljdaaDoor
open Go.RowKit
open Cc (g)

section
variable {P : Program} {ops : Array Oper} {C : World → Prop} {K : Act → Prop} {a : Act} {o : Oper}

theorem wq_value {v : Value} (hw : Region.wanted o (yielded ops a.tmps) = true) (h : ∀ w, C w → (execOp a.eval o).run P w = .ok (.value v) w)
    (hn : K (a.put o.dst v)) : if Region.wanted o (yielded ops a.tmps) then o.quiet P a C K else K (a.put o.dst undef) := by
  rw [if_pos hw]
  refine ⟨v, fun w hC => ?_, hn⟩
  unfold Oper.quietAt
  rw [h w hC]
  exact ⟨rfl, rfl⟩
theorem wq_call {v : Value} {f : FuncId} {args : Array Value} (hw : Region.wanted o (yielded ops a.tmps) = true) (h : ∀ w, C w → (execOp a.eval o).run P w = .ok (.enter f args) w)
    (hc : ∀ w, C w → Calls P f args w fun e w' => e = .returned v ∧ C w') (hn : K (a.put o.dst v)) : if Region.wanted o (yielded ops a.tmps) then o.quiet P a C K else K (a.put o.dst undef) := by
  rw [if_pos hw]
  refine ⟨v, fun w hC => ?_, hn⟩
  unfold Oper.quietAt
  rw [h w hC]
  exact ⟨rfl, hc w hC⟩
/-- A whole row of one block. -/
theorem wq_load_row (hw : Region.wanted o (yielded ops a.tmps) = true) (ty : TypeId) (x : Operand) (ho : o.op = .load ty x) (b : Nat) (hx : a.eval x = .pointer (some ⟨b, 0, none⟩)) (t : TypeId) (cs : Array Value) (fr : Nat × Nat) (d : TypeDesc)
    (hr : ∀ w, C w → w.heap[b]? = some (.cells cs t fr)) (hu : P.underlying ty = some d) (hd : (match d with | .struct _ | .array _ _ => true | _ => false) = true) (hi : (P.info? ty).map (·.size) = some cs.size)
    (hn : K (a.put o.dst (.agg cs))) : if Region.wanted o (yielded ops a.tmps) then o.quiet P a C K else K (a.put o.dst undef) :=
  wq_value hw (fun w hC => by
    unfold execOp
    simp only [ho, hx, Instr.loadAt, Instr.sureAddr, Sem.run_bind, Sem.run_pure, Result.andThen_ok, run_loadVar_row w b t ty cs fr d (hr w hC) hu hd hi]) hn
end
/-- '==' of two arrays or structs. -/
theorem run_exec_eql {P : Program} {o : Oper} {a : Act} {t : TypeId} {x y : Operand} {ty : TypeId} {xs ys : Array Value} {b : Bool} (w : World) (ho : o.op = .binOp .eql t x y ty) (hx : a.eval x = .agg xs) (hy : a.eval y = .agg ys)
    (hm : P.eqGuardType P.depth t = false) (h : (binOp .eql t (.agg xs) (.agg ys)).run P w = .ok (.bool b) w) : (execOp a.eval o).run P w = .ok (.value (.bool b)) w := by
  unfold execOp
  simp only [ho, hx, hy, Sem.run_bind, run_eqGuard_agg w .eql t x y xs ys hm, Result.andThen_ok, h, Sem.run_pure]

/-- The class: what lay below B is as it was. -/
theorem wp_region_below {P : Program} {id : Nat} {Q : Exit → Act → World → Prop} {a : Act} {w : World} {l : List Oper} (B : Nat) (hm : P.follows .mixedOrders = true) (hB : Region.lexB .any l.toArray = true)
    (h : wpQuiet P l.toArray (Below B w) (fun a' => ∀ w', Below B w w' → Q .normal a' w') l a) : (Code.region id l.toArray true).wp P Q a w :=
  wp_region_quiet (C := Below B w) hm hB ((Below.refl B w).drew) (by simpa using h)
end Go.Proofs.YtokcmaehojljdaaDoor

/- Lists of texts, and lists of such lists, that came in: opened. -/
namespace Go.Proofs.YtokcmaehojljdaaDoor
open Go.ChangeShapes Go.WideShapes Go.Deep Go.RowKit Go.Proofs.YtokcmaehojljdaaDoorW.PrintWords Go.Proofs.YtokcmaehojljdaaDoorW.PrintLast Go.Proofs.YtokcmaehojljdaaDoorW.PrintMore

theorem cells9 : Tryd.prog.cellsOf 9 = 1 := by kernel_rfl
theorem cells23 : Tryd.prog.cellsOf 23 = 1 := by kernel_rfl
theorem bytes9 : Tryd.prog.bytesOf 9 = 16 := by kernel_rfl
theorem bytes23 : Tryd.prog.bytesOf 23 = 24 := by kernel_rfl
theorem weightsAll_mem {H : Type} {P : Program} {e : TypeId} : ∀ {l : List (DataW H)} {d : DataW H}, d ∈ l → ∀ n ∈ d.weights P e, n ∈ DataW.weightsAll P e l
  | d' :: r, d, hd, n, hn => by
    simp only [DataW.weightsAll, List.mem_append]
    rcases List.mem_cons.1 hd with rfl | h
    · exact Or.inl hn
    · exact Or.inr (weightsAll_mem h n hn)
/-- A list of texts, as it lies in the world. -/
def TextsAt (w : World) (v : Value) (l : List ByteArray) : Prop := ∃ A c, v = .slice A l.length c ∧ l.length ≤ c ∧ Kd.C Kd.string w A l.length l ∧ l.length ≤ 140737488351232 ∧ ∀ s ∈ l, s.size ≤ 140737488351232
theorem open_texts {H : Type} {enc : TypeId × Value → H} {w : World} {fuel : Nat} {v : Value} {x : DataW H × List MemPlace}
    (h : DataW.trod enc Tryd.prog w 0 (fun _ => true) true fuel 23 [v] = some x) (hsz : ∀ n ∈ x.1.weights Tryd.prog 23, n ≤ reachBytes) : ∃ l, TextsAt w v l := by
  rcases open_strings Tryd.underlying23 Tryd.underlying9 cells9 h with ⟨hcs, hx⟩ | ⟨a, len, cap, ss, hcs, _, hl, hm, hz, hx, hcell, _⟩
  · simp only [List.cons.injEq, and_true] at hcs
    subst hcs
    exact ⟨[], none, 0, rfl, Nat.le_refl _, Kd.C_nil _ _, by simp, by simp⟩
  · simp only [List.cons.injEq, and_true] at hcs
    subst hcs hx
    simp only [if_true] at hz
    have hwt : ∀ n, n = (strs (H := H) (ss.take len)).length + (strs (H := H) (ss.drop len)).length ∨ (∃ s ∈ ss.take len, n = s.size) → n ≤ reachBytes := by
      rintro n (rfl | ⟨s, hs, rfl⟩)
      · have := hsz (((strs (H := H) (ss.take len)).length + (strs (H := H) (ss.drop len)).length) * Tryd.prog.bytesOf 9) (by simp [DataW.weights, Tryd.underlying23])
        rw [bytes9] at this
        omega
      · refine hsz _ ?_
        simp only [DataW.weights, Tryd.underlying23, List.mem_cons, List.mem_append]
        refine .inr (.inl (weightsAll_mem (d := .lit (.string s.data.toList)) ?_ _ (by simp [DataW.weights])))
        simp only [strs, List.mem_map]
        exact ⟨s, hs, rfl⟩
    have hlen : (ss.take len).length = len := by rw [List.length_take]; omega
    have hn := hwt _ (.inl rfl)
    simp only [strs, List.length_map, List.length_take, List.length_drop] at hn
    have hr : reachBytes = 140737488351232 := rfl
    rw [hr] at hn hwt
    refine ⟨ss.take len, some a, cap, by rw [hlen], by rw [hlen]; exact hl, ?_, by rw [hlen]; omega, fun s hs => hwt _ (.inr ⟨s, hs, rfl⟩)⟩
    rw [hlen]
    refine Kd.C_of_reads (d := ByteArray.empty) ⟨hlen, by omega, fun _ => ⟨a, rfl, fun j hj => ?_⟩⟩
    rw [hcell j (by omega)]
    have : (ss.take len).getD j ByteArray.empty = ss.getD j ByteArray.empty := by simp [List.getD_eq_getElem?_getD, hj]
    rw [this]
end Go.Proofs.YtokcmaehojljdaaDoor

namespace Go.Proofs.YtokcmaehojljdaaDoor.PWire
open Go.RowKit Go.Proofs.YtokcmaehojljdaaDoorW.PrintWords Go.Proofs.YtokcmaehojljdaaDoorW.PrintLast Go.Proofs.YtokcmaehojljdaaDoorW.PrintMore
attribute [local go_sem] max2_int min2_int max_two min_two max_three min_three max_four min_four   -- for this text's walks alone
set_option linter.unusedVariables false
set_option linter.unusedSimpArgs false

-- NOT PRINTED: function 8 (hibernacleref44_Great)

/-! ### wire_of: function 24 -/
def wire_of.j0 : Nat → Int → Int → Bool → Option (Bool × Bool × Bool × Bool × Bool)
  | 0, _, _, _ => none
  | k + 1, x0, x4, x5 => if x5 = true then (some (true, false, false, false, true)) else (if x4 = 3 then (some (false, true, false, false, true)) else (if x4 = 4 then (some (false, false, true, false, true)) else (if x4 = 5 then (some (false, false, false, true, true)) else (some (false, false, false, false, (x0 == 6))))))
def wire_of.f (k : Nat) (a0 : Int) : Option (Bool × Bool × Bool × Bool × Bool) := if a0 = 1 then (wire_of.j0 k a0 a0 (a0 == 1)) else (wire_of.j0 k a0 a0 (a0 == 2))
theorem wire_of.mono_l : ∀ k, (∀ y0 y1 y2, LeO (wire_of.j0 k y0 y1 y2) (wire_of.j0 (k + 1) y0 y1 y2))
  | 0 => fun _ _ _ r h => by simp [wire_of.j0] at h
  | k + 1 => by
    have ih0 := wire_of.mono_l k
    · intro y0 y1 y2
      unfold wire_of.j0
      repeat' first
      | (with_reducible exact ih0 _ _ _)
      | (with_reducible exact LeO.refl _)
      | (with_reducible exact LeO.none _)
      | (with_reducible refine LeO.ite ?_ ?_)
      | (with_reducible refine LeO.bind ?_ (fun _ => ?_))
      | exact ih0 _ _ _
      | exact LeO.none _
      | refine LeO.ite ?_ ?_
      | refine LeO.bind ?_ (fun _ => ?_)
theorem wire_of.mono : ∀ a0 k, LeO (wire_of.f k a0) (wire_of.f (k + 1) a0) := by
  intro a0 k
  have ih0 := wire_of.mono_l k
  unfold wire_of.f
  repeat' first
      | (with_reducible exact ih0 _ _ _)
      | (with_reducible exact LeO.refl _)
      | (with_reducible exact LeO.none _)
      | (with_reducible refine LeO.ite ?_ ?_)
      | (with_reducible refine LeO.bind ?_ (fun _ => ?_))
      | exact ih0 _ _ _
      | exact LeO.none _
      | refine LeO.ite ?_ ?_
      | refine LeO.bind ?_ (fun _ => ?_)
set_option maxHeartbeats 8000000 in
set_option maxRecDepth 100000 in
theorem wire_of.calls (k : Nat) (a0 : Int) (r1 : Bool) (r2 : Bool) (r3 : Bool) (r4 : Bool) (r5 : Bool) (w : World) (h : wire_of.f k a0 = some (r1, r2, r3, r4, r5)) :
    Calls Tryd.prog 24 #[.int .i64 a0] w fun e w' => e = .returned (.tuple #[.agg #[.bool r1, .bool r2, .bool r3, .bool r4], .bool r5]) ∧ Below w.heap.size w w' := by
  have hu53 := Tryd.underlying53
  have HB := Aside0.mk (Below.refl w.heap.size w)
  have H : (if a0 = 1 then (wire_of.j0 k a0 a0 (a0 == 1)) else (wire_of.j0 k a0 a0 (a0 == 2))) = some (r1, r2, r3, r4, r5) := h
  clear h
  have HC2 := Aside0.mk H
  clear H
  go_enter Tryd.func24, Tryd.ntmps24
  go_upto_if 5 with (first | ((with_reducible refine gate_dst (N := 2) rfl ?_); refine box_event ?hg (N := 2) ?hd (cs := #[.bool false, .bool false, .bool false, .bool false]) (t := 53) ?hr ?_; (case hd => rfl); (case hg => rfl); (case hr => first | (go_simp; done) | (go_simp; rfl)); intro gb101 hg w3 hbox hb; have n0_ := Aside0.mk (below_step (by repeat (first | (with_reducible first | exact HB.out | apply below_alloc | apply pw_below_drewN | apply below_drew1) | exact HB.out)) hb); have n1_ := Aside0.mk (hbox); have n2_ := Aside0.mk ((by rw [hg]; exact (below_size (by repeat (first | (with_reducible first | exact HB.out | apply below_alloc | apply pw_below_drewN | apply below_drew1) | exact HB.out))) : w.heap.size ≤ gb101)); have n3_ := Aside0.mk ((by rw [hg]; exact (below_size (by repeat (first | (with_reducible first | exact HB.out | apply below_alloc | apply pw_below_drewN | apply below_drew1) | exact HB.out))) : w.heap.size ≤ gb101)); clear HB; have HB := n0_; have BK101 := n1_; have GW101 := n2_; have GE101 := n3_; clear n0_ n1_ n2_ n3_; clear hb hbox hg))
  (try simp only [Act.put, List.setIfInBounds_toArray, List.set_cons_zero, List.set_cons_succ])
  go_cut [5] (fun v5 wc => ∃ (kq : Nat) (x5_1 : Bool), v5 = .bool x5_1 ∧ Aside0 (wire_of.j0 kq a0 a0 x5_1 = some (r1, r2, r3, r4, r5)) ∧ Aside0 (kq ≤ k) ∧ Aside0 (wc.heap[gb101]? = some (.cells #[.bool false, .bool false, .bool false, .bool false] 53 (0, 0))) ∧ Aside0 (Below w.heap.size w wc))
  case first =>
    have H := HC2.out
    clear HC2
    by_cases c4 : a0 = 1
    · rw [if_pos c4] at H
      have c4b0 : (a0 == 1) = true := beq_iff_eq.mpr c4
      have c4b1 : (a0 != 1) = false := bne_eq_false_iff_eq.mpr c4
      clear c4
      (first | rw [c4b0] | (simp only [i64_w, i32_w]; rw [c4b0]) | skip)
      have H' := Aside0.mk H
      clear H
      go_wp2
      go_meet
      case rel => exact ⟨_, ((a0 == 1)), (by first | rfl | (simp; done) | (simp [*]; done)), H', ⟨by first | omega | exact Nat.le_refl _⟩, ⟨by (with_reducible repeat (first | refine blk_drewN ?_ _ | refine blk_drew ?_ | refine blk_alloc ?_ _)); exact BK101.out⟩, ⟨by repeat (first | (with_reducible first | exact HB.out | apply below_alloc | apply pw_below_drewN | apply below_drew1 | refine below_set ?_ GE101.out) | exact HB.out)⟩⟩
    · rw [if_neg c4] at H
      have c4b0 : (a0 == 1) = false := beq_eq_false_iff_ne.mpr c4
      have c4b1 : (a0 != 1) = true := bne_iff_ne.mpr c4
      (first | rw [c4b0] | (simp only [i64_w, i32_w]; rw [c4b0]) | skip)
      have H' := Aside0.mk H
      clear H
      go_wp2
      go_meet
      case rel => exact ⟨_, ((a0 == 2)), (by first | rfl | (simp; done) | (simp [*]; done)), H', ⟨by first | omega | exact Nat.le_refl _⟩, ⟨by (with_reducible repeat (first | refine blk_drewN ?_ _ | refine blk_drew ?_ | refine blk_alloc ?_ _)); exact BK101.out⟩, ⟨by repeat (first | (with_reducible first | exact HB.out | apply below_alloc | apply pw_below_drewN | apply below_drew1 | refine below_set ?_ GE101.out) | exact HB.out)⟩⟩
  case rest =>
    clear HC2
    try clear c2
    try clear p2
    try clear c4
    try clear c4b0
    try clear c4b1
    obtain ⟨kq, x5_1, rfl, HA, HJ1, BK101, HB⟩ := hcut
    cases kq with
    | zero => exact absurd HA.out (by simp [wire_of.j0])
    | succ kj1 =>
      have H := HA.out
      clear HA
      simp only [wire_of.j0] at H
      by_cases c5 : x5_1 = true
      · subst c5
        have H1 : (some (true, false, false, false, true)) = some (r1, r2, r3, r4, r5) := by rw [if_pos rfl] at H; exact H
        clear H
        have H := H1
        clear H1
        simp only [Option.some.injEq, Prod.mk.injEq] at H
        obtain ⟨rfl, rfl, rfl, rfl, rfl⟩ := H
        have hcz6_0 : wc.cell? ⟨gb101, 0, none⟩ = some (.bool false) := (blk_cell BK101.out 0).trans rfl
        have hcz6_1 : wc.cell? ⟨gb101, 1, none⟩ = some (.bool false) := (blk_cell BK101.out 1).trans rfl
        have hcz6_2 : wc.cell? ⟨gb101, 2, none⟩ = some (.bool false) := (blk_cell BK101.out 2).trans rfl
        have hcz6_3 : wc.cell? ⟨gb101, 3, none⟩ = some (.bool false) := (blk_cell BK101.out 3).trans rfl
        have hfz6_0 := blk_frozen BK101.out 0
        have hfz6_1 := blk_frozen BK101.out 1
        have hfz6_2 := blk_frozen BK101.out 2
        have hfz6_3 := blk_frozen BK101.out 3
        go_wp2
        refine bodyPost_ret (results_ct rfl _ _ gb101 53 #[.bool true, .bool false, .bool false, .bool false] (0, 0) _ rfl (by (with_reducible repeat (first | refine blk_drewN ?_ _ | refine blk_drew ?_ | refine blk_alloc ?_ _)); refine blk_put (cs := #[.bool true, .bool false, .bool false, .bool false]) ?_ 3 _ rfl; (with_reducible repeat (first | refine blk_drewN ?_ _ | refine blk_drew ?_ | refine blk_alloc ?_ _)); refine blk_put (cs := #[.bool true, .bool false, .bool false, .bool false]) ?_ 2 _ rfl; (with_reducible repeat (first | refine blk_drewN ?_ _ | refine blk_drew ?_ | refine blk_alloc ?_ _)); refine blk_put (cs := #[.bool true, .bool false, .bool false, .bool false]) ?_ 1 _ rfl; (with_reducible repeat (first | refine blk_drewN ?_ _ | refine blk_drew ?_ | refine blk_alloc ?_ _)); refine blk_put (cs := #[.bool false, .bool false, .bool false, .bool false]) ?_ 0 _ rfl; (with_reducible repeat (first | refine blk_drewN ?_ _ | refine blk_drew ?_ | refine blk_alloc ?_ _)); exact BK101.out) Tryd.underlying53 rfl (by kernel_rfl)) rfl ?_
        exact ⟨by first | rfl | (simp [errW_none, errW_some] <;> rfl) | (simp [*, errW_none, errW_some] <;> rfl), by repeat (first | (with_reducible first | exact HB.out | apply below_alloc | apply pw_below_drewN | apply below_drew1 | refine below_set ?_ GE101.out) | exact HB.out)⟩
      · replace c5 := Bool.eq_false_iff.mpr c5
        subst c5
        have H1 : (if a0 = 3 then (some (false, true, false, false, true)) else (if a0 = 4 then (some (false, false, true, false, true)) else (if a0 = 5 then (some (false, false, false, true, true)) else (some (false, false, false, false, (a0 == 6)))))) = some (r1, r2, r3, r4, r5) := by rw [if_neg (show ¬ (false = true) by decide)] at H; exact H
        clear H
        have H := H1
        clear H1
        by_cases c7 : a0 = 3
        · rw [if_pos c7] at H
          have c7b0 : (a0 == 3) = true := beq_iff_eq.mpr c7
          have c7b1 : (a0 != 3) = false := bne_eq_false_iff_eq.mpr c7
          clear c7
          simp only [Option.some.injEq, Prod.mk.injEq] at H
          obtain ⟨rfl, rfl, rfl, rfl, rfl⟩ := H
          have hcz8_0 : wc.cell? ⟨gb101, 0, none⟩ = some (.bool false) := (blk_cell BK101.out 0).trans rfl
          have hcz8_1 : wc.cell? ⟨gb101, 1, none⟩ = some (.bool false) := (blk_cell BK101.out 1).trans rfl
          have hcz8_2 : wc.cell? ⟨gb101, 2, none⟩ = some (.bool false) := (blk_cell BK101.out 2).trans rfl
          have hcz8_3 : wc.cell? ⟨gb101, 3, none⟩ = some (.bool false) := (blk_cell BK101.out 3).trans rfl
          have hfz8_0 := blk_frozen BK101.out 0
          have hfz8_1 := blk_frozen BK101.out 1
          have hfz8_2 := blk_frozen BK101.out 2
          have hfz8_3 := blk_frozen BK101.out 3
          go_wp2
          refine bodyPost_ret (results_ct rfl _ _ gb101 53 #[.bool false, .bool true, .bool false, .bool false] (0, 0) _ rfl (by (with_reducible repeat (first | refine blk_drewN ?_ _ | refine blk_drew ?_ | refine blk_alloc ?_ _)); refine blk_put (cs := #[.bool false, .bool true, .bool false, .bool false]) ?_ 3 _ rfl; (with_reducible repeat (first | refine blk_drewN ?_ _ | refine blk_drew ?_ | refine blk_alloc ?_ _)); refine blk_put (cs := #[.bool false, .bool true, .bool false, .bool false]) ?_ 2 _ rfl; (with_reducible repeat (first | refine blk_drewN ?_ _ | refine blk_drew ?_ | refine blk_alloc ?_ _)); refine blk_put (cs := #[.bool false, .bool false, .bool false, .bool false]) ?_ 1 _ rfl; (with_reducible repeat (first | refine blk_drewN ?_ _ | refine blk_drew ?_ | refine blk_alloc ?_ _)); refine blk_put (cs := #[.bool false, .bool false, .bool false, .bool false]) ?_ 0 _ rfl; (with_reducible repeat (first | refine blk_drewN ?_ _ | refine blk_drew ?_ | refine blk_alloc ?_ _)); exact BK101.out) Tryd.underlying53 rfl (by kernel_rfl)) rfl ?_
          exact ⟨by first | rfl | (simp [errW_none, errW_some] <;> rfl) | (simp [*, errW_none, errW_some] <;> rfl), by repeat (first | (with_reducible first | exact HB.out | apply below_alloc | apply pw_below_drewN | apply below_drew1 | refine below_set ?_ GE101.out) | exact HB.out)⟩
        · rw [if_neg c7] at H
          have c7b0 : (a0 == 3) = false := beq_eq_false_iff_ne.mpr c7
          have c7b1 : (a0 != 3) = true := bne_iff_ne.mpr c7
          by_cases c9 : a0 = 4
          · rw [if_pos c9] at H
            have c9b0 : (a0 == 4) = true := beq_iff_eq.mpr c9
            have c9b1 : (a0 != 4) = false := bne_eq_false_iff_eq.mpr c9
            clear c9
            simp only [Option.some.injEq, Prod.mk.injEq] at H
            obtain ⟨rfl, rfl, rfl, rfl, rfl⟩ := H
            have hcz10_0 : wc.cell? ⟨gb101, 0, none⟩ = some (.bool false) := (blk_cell BK101.out 0).trans rfl
            have hcz10_1 : wc.cell? ⟨gb101, 1, none⟩ = some (.bool false) := (blk_cell BK101.out 1).trans rfl
            have hcz10_2 : wc.cell? ⟨gb101, 2, none⟩ = some (.bool false) := (blk_cell BK101.out 2).trans rfl
            have hcz10_3 : wc.cell? ⟨gb101, 3, none⟩ = some (.bool false) := (blk_cell BK101.out 3).trans rfl
            have hfz10_0 := blk_frozen BK101.out 0
            have hfz10_1 := blk_frozen BK101.out 1
            have hfz10_2 := blk_frozen BK101.out 2
            have hfz10_3 := blk_frozen BK101.out 3
            go_wp2
            refine bodyPost_ret (results_ct rfl _ _ gb101 53 #[.bool false, .bool false, .bool true, .bool false] (0, 0) _ rfl (by (with_reducible repeat (first | refine blk_drewN ?_ _ | refine blk_drew ?_ | refine blk_alloc ?_ _)); refine blk_put (cs := #[.bool false, .bool false, .bool true, .bool false]) ?_ 3 _ rfl; (with_reducible repeat (first | refine blk_drewN ?_ _ | refine blk_drew ?_ | refine blk_alloc ?_ _)); refine blk_put (cs := #[.bool false, .bool false, .bool false, .bool false]) ?_ 2 _ rfl; (with_reducible repeat (first | refine blk_drewN ?_ _ | refine blk_drew ?_ | refine blk_alloc ?_ _)); refine blk_put (cs := #[.bool false, .bool false, .bool false, .bool false]) ?_ 1 _ rfl; (with_reducible repeat (first | refine blk_drewN ?_ _ | refine blk_drew ?_ | refine blk_alloc ?_ _)); refine blk_put (cs := #[.bool false, .bool false, .bool false, .bool false]) ?_ 0 _ rfl; (with_reducible repeat (first | refine blk_drewN ?_ _ | refine blk_drew ?_ | refine blk_alloc ?_ _)); exact BK101.out) Tryd.underlying53 rfl (by kernel_rfl)) rfl ?_
            exact ⟨by first | rfl | (simp [errW_none, errW_some] <;> rfl) | (simp [*, errW_none, errW_some] <;> rfl), by repeat (first | (with_reducible first | exact HB.out | apply below_alloc | apply pw_below_drewN | apply below_drew1 | refine below_set ?_ GE101.out) | exact HB.out)⟩
          · rw [if_neg c9] at H
            have c9b0 : (a0 == 4) = false := beq_eq_false_iff_ne.mpr c9
            have c9b1 : (a0 != 4) = true := bne_iff_ne.mpr c9
            by_cases c11 : a0 = 5
            · rw [if_pos c11] at H
              have c11b0 : (a0 == 5) = true := beq_iff_eq.mpr c11
              have c11b1 : (a0 != 5) = false := bne_eq_false_iff_eq.mpr c11
              clear c11
              simp only [Option.some.injEq, Prod.mk.injEq] at H
              obtain ⟨rfl, rfl, rfl, rfl, rfl⟩ := H
              have hcz12_0 : wc.cell? ⟨gb101, 0, none⟩ = some (.bool false) := (blk_cell BK101.out 0).trans rfl
              have hcz12_1 : wc.cell? ⟨gb101, 1, none⟩ = some (.bool false) := (blk_cell BK101.out 1).trans rfl
              have hcz12_2 : wc.cell? ⟨gb101, 2, none⟩ = some (.bool false) := (blk_cell BK101.out 2).trans rfl
              have hcz12_3 : wc.cell? ⟨gb101, 3, none⟩ = some (.bool false) := (blk_cell BK101.out 3).trans rfl
              have hfz12_0 := blk_frozen BK101.out 0
              have hfz12_1 := blk_frozen BK101.out 1
              have hfz12_2 := blk_frozen BK101.out 2
              have hfz12_3 := blk_frozen BK101.out 3
              go_wp2
              refine bodyPost_ret (results_ct rfl _ _ gb101 53 #[.bool false, .bool false, .bool false, .bool true] (0, 0) _ rfl (by (with_reducible repeat (first | refine blk_drewN ?_ _ | refine blk_drew ?_ | refine blk_alloc ?_ _)); refine blk_put (cs := #[.bool false, .bool false, .bool false, .bool false]) ?_ 3 _ rfl; (with_reducible repeat (first | refine blk_drewN ?_ _ | refine blk_drew ?_ | refine blk_alloc ?_ _)); refine blk_put (cs := #[.bool false, .bool false, .bool false, .bool false]) ?_ 2 _ rfl; (with_reducible repeat (first | refine blk_drewN ?_ _ | refine blk_drew ?_ | refine blk_alloc ?_ _)); refine blk_put (cs := #[.bool false, .bool false, .bool false, .bool false]) ?_ 1 _ rfl; (with_reducible repeat (first | refine blk_drewN ?_ _ | refine blk_drew ?_ | refine blk_alloc ?_ _)); refine blk_put (cs := #[.bool false, .bool false, .bool false, .bool false]) ?_ 0 _ rfl; (with_reducible repeat (first | refine blk_drewN ?_ _ | refine blk_drew ?_ | refine blk_alloc ?_ _)); exact BK101.out) Tryd.underlying53 rfl (by kernel_rfl)) rfl ?_
              exact ⟨by first | rfl | (simp [errW_none, errW_some] <;> rfl) | (simp [*, errW_none, errW_some] <;> rfl), by repeat (first | (with_reducible first | exact HB.out | apply below_alloc | apply pw_below_drewN | apply below_drew1 | refine below_set ?_ GE101.out) | exact HB.out)⟩
            · rw [if_neg c11] at H
              have c11b0 : (a0 == 5) = false := beq_eq_false_iff_ne.mpr c11
              have c11b1 : (a0 != 5) = true := bne_iff_ne.mpr c11
              simp only [Option.some.injEq, Prod.mk.injEq] at H
              obtain ⟨rfl, rfl, rfl, rfl, rfl⟩ := H
              have hcz13_0 : wc.cell? ⟨gb101, 0, none⟩ = some (.bool false) := (blk_cell BK101.out 0).trans rfl
              have hcz13_1 : wc.cell? ⟨gb101, 1, none⟩ = some (.bool false) := (blk_cell BK101.out 1).trans rfl
              have hcz13_2 : wc.cell? ⟨gb101, 2, none⟩ = some (.bool false) := (blk_cell BK101.out 2).trans rfl
              have hcz13_3 : wc.cell? ⟨gb101, 3, none⟩ = some (.bool false) := (blk_cell BK101.out 3).trans rfl
              have hfz13_0 := blk_frozen BK101.out 0
              have hfz13_1 := blk_frozen BK101.out 1
              have hfz13_2 := blk_frozen BK101.out 2
              have hfz13_3 := blk_frozen BK101.out 3
              go_wp2
              refine bodyPost_ret (results_ct rfl _ _ gb101 53 #[.bool false, .bool false, .bool false, .bool false] (0, 0) _ rfl (by (with_reducible repeat (first | refine blk_drewN ?_ _ | refine blk_drew ?_ | refine blk_alloc ?_ _)); refine blk_put (cs := #[.bool false, .bool false, .bool false, .bool false]) ?_ 3 _ rfl; (with_reducible repeat (first | refine blk_drewN ?_ _ | refine blk_drew ?_ | refine blk_alloc ?_ _)); refine blk_put (cs := #[.bool false, .bool false, .bool false, .bool false]) ?_ 2 _ rfl; (with_reducible repeat (first | refine blk_drewN ?_ _ | refine blk_drew ?_ | refine blk_alloc ?_ _)); refine blk_put (cs := #[.bool false, .bool false, .bool false, .bool false]) ?_ 1 _ rfl; (with_reducible repeat (first | refine blk_drewN ?_ _ | refine blk_drew ?_ | refine blk_alloc ?_ _)); refine blk_put (cs := #[.bool false, .bool false, .bool false, .bool false]) ?_ 0 _ rfl; (with_reducible repeat (first | refine blk_drewN ?_ _ | refine blk_drew ?_ | refine blk_alloc ?_ _)); exact BK101.out) Tryd.underlying53 rfl (by kernel_rfl)) rfl ?_
              exact ⟨by first | rfl | (simp [errW_none, errW_some] <;> rfl) | (simp [*, errW_none, errW_some] <;> rfl), by repeat (first | (with_reducible first | exact HB.out | apply below_alloc | apply pw_below_drewN | apply below_drew1 | refine below_set ?_ GE101.out) | exact HB.out)⟩

-- NOT PRINTED: function 25 (wire_empty)

-- NOT PRINTED: function 92 (strings_indexFunc)

-- NOT PRINTED: function 79 (strings_IndexFunc)

-- NOT PRINTED: function 67 (strings_ContainsFunc)

-- NOT PRINTED: function 46 (manifest_machine)

/-! ### manifest_within: function 47 -/
def manifest_within.f (a0 : Int) (a1 : Int) (a2 : Int) : Option (Bool) := if a0 ≥ a1 then (some (decide (a0 ≤ a2))) else (some false)
set_option maxHeartbeats 8000000 in
set_option maxRecDepth 100000 in
theorem manifest_within.calls (a0 : Int) (a1 : Int) (a2 : Int) (r : Bool) (w : World) (h : manifest_within.f a0 a1 a2 = some r) :
    Calls Tryd.prog 47 #[.int .i64 a0, .int .i64 a1, .int .i64 a2] w fun e w' => e = .returned (.bool r) ∧ Drawn0 w w' := by
  have H : (if a0 ≥ a1 then (some (decide (a0 ≤ a2))) else (some false)) = some r := h
  clear h
  by_cases c4 : a0 ≥ a1
  · rw [if_pos c4] at H
    have c4b0 : decide (a1 ≤ a0) = true := decide_eq_true c4
    clear c4
    obtain rfl := Option.some.inj H
    go_enter Tryd.func47, Tryd.ntmps47
    go_wp2
    go_ret
    exact ⟨by first | rfl | (simp; done) | (simp [*]; done), by repeat (first | exact Drawn0.refl _ | apply Drawn0.step)⟩
  · rw [if_neg c4] at H
    have c4b0 : decide (a1 ≤ a0) = false := decide_eq_false c4
    clear c4
    obtain rfl := Option.some.inj H
    go_enter Tryd.func47, Tryd.ntmps47
    go_wp2
    go_ret
    exact ⟨by first | rfl | (simp; done) | (simp [*]; done), by repeat (first | exact Drawn0.refl _ | apply Drawn0.step)⟩

-- NOT PRINTED: function 68 (slices_IndexFunc_string_string)

-- NOT PRINTED: function 48 (slices_ContainsFunc_string_string)

-- NOT PRINTED: function 26 (manifest_Check)

-- NOT PRINTED: function 13 (wire_Check)

-- NOT PRINTED: function 73 (abi_NoEscape)

-- NOT PRINTED: function 61 (strings_Builder_copyCheck)

-- NOT PRINTED: function 35 (strings_Builder_Write)

/-! ### num_length: function 36 -/
def num_length.l0 : Nat → Int → List Int → Option (List Int)
  | 0, _, _ => none
  | k + 1, x0, x3 => if x0 ≥ 128 then (if x3.length < 140737488355328 then (num_length.l0 k (wrap64 (Int.tdiv x0 128)) (x3 ++ [((Int.tmod x0 128) + 128) % 256])) else (none)) else (if x3.length < 140737488355328 then (some (x3 ++ [(x0) % 256])) else (none))
def num_length.f (k : Nat) (a0 : Int) : Option (List Int) := num_length.l0 k a0 ([] : List Int)
theorem num_length.mono_l : ∀ k, (∀ y0 y1, LeO (num_length.l0 k y0 y1) (num_length.l0 (k + 1) y0 y1))
  | 0 => fun _ _ r h => by simp [num_length.l0] at h
  | k + 1 => by
    have ih0 := num_length.mono_l k
    · intro y0 y1
      unfold num_length.l0
      repeat' first
      | (with_reducible exact ih0 _ _)
      | (with_reducible exact LeO.refl _)
      | (with_reducible exact LeO.none _)
      | (with_reducible refine LeO.ite ?_ ?_)
      | (with_reducible refine LeO.bind ?_ (fun _ => ?_))
      | exact ih0 _ _
      | exact LeO.none _
      | refine LeO.ite ?_ ?_
      | refine LeO.bind ?_ (fun _ => ?_)
theorem num_length.mono : ∀ a0 k, LeO (num_length.f k a0) (num_length.f (k + 1) a0) := by
  intro a0 k
  have ih0 := num_length.mono_l k
  unfold num_length.f
  repeat' first
      | (with_reducible exact ih0 _ _)
      | (with_reducible exact LeO.refl _)
      | (with_reducible exact LeO.none _)
      | (with_reducible refine LeO.ite ?_ ?_)
      | (with_reducible refine LeO.bind ?_ (fun _ => ?_))
      | exact ih0 _ _
      | exact LeO.none _
      | refine LeO.ite ?_ ?_
      | refine LeO.bind ?_ (fun _ => ?_)
set_option maxHeartbeats 8000000 in
set_option maxRecDepth 100000 in
theorem num_length.calls (k : Nat) (a0 : Int) (r : List Int) (w : World) (h : num_length.f k a0 = some r) :
    Calls Tryd.prog 36 #[.int .i64 a0] w fun e w' => ∃ v0_ : Value, e = .returned (v0_) ∧ Kd.R (Kd.int .u8) 5 w' w.heap.size (fun _ => True) v0_ r ∧ Below w.heap.size w w' := by
  have HB := Aside0.mk (Below.refl w.heap.size w)
  have H : (num_length.l0 k a0 ([] : List Int)) = some r := h
  clear h
  have H' := Aside0.mk H
  clear H
  go_enter Tryd.func36, Tryd.ntmps36
  go_wp2
  go_loopg [0, 3] k (fun kq v0 v3 w' => ∃ (x0_1 : Int) (x3_1 : List Int), v0 = .int .i64 x0_1 ∧ Aside0 (num_length.l0 kq x0_1 x3_1 = some r) ∧ Aside0 (kq ≤ k) ∧ Aside0 (Kd.R (Kd.int .u8) 5 w' w.heap.size (fun _ => True) v3 x3_1) ∧ Aside0 (Below w.heap.size w w'))
  case atStart => exact ⟨(a0), (([] : List Int)), (by first | rfl | (simp; done) | (simp [*]; done)), H', ⟨Nat.le_refl _⟩, ⟨by first | exact Kd.R_nil _ _ _ _ _ | exact Kd.N_nil _ _ _ _ _ | exact Kd.V_nil _ _ _ _ _ | exact Kd.Q_nil _ _ _ _ _ | exact Kd.S_nil _ _ _ _ _⟩, ⟨by repeat (first | (with_reducible first | exact HB.out | apply below_alloc | apply pw_below_drewN | apply below_drew1) | exact HB.out)⟩⟩
  case round =>
    clear H'
    obtain ⟨x0_1, x3_1, rfl, HA, HK1, HO_3, HB⟩ := hrel
    cases gk with
    | zero => exact absurd HA.out (by simp [num_length.l0])
    | succ k1 =>
      have H := HA.out
      clear HA
      simp only [num_length.l0] at H
      by_cases c2 : x0_1 ≥ 128
      · rw [if_pos c2] at H
        have c2b0 : decide (128 ≤ x0_1) = true := decide_eq_true c2
        clear c2
        by_cases c3 : x3_1.length < 140737488355328
        · rw [if_pos c3] at H
          have LMc3 := Aside0.mk c3
          clear c3
          obtain ⟨y102, hy102⟩ : ∃ y_ : List Int, y_ = (x3_1 ++ [((Int.tmod x0_1 128) + 128) % 256]) := ⟨_, rfl⟩
          replace H : (num_length.l0 k1 (wrap64 (Int.tdiv x0_1 128)) y102) = some r := by first | (rw [hy102]; with_reducible exact H) | (have H2_ := (Option.bind_some _ _).symm.trans H; rw [hy102]; with_reducible exact H2_) | (have H2_ := (Option.bind_some _ _).symm.trans H; with_reducible exact H2_) | with_reducible exact H | (rw [hy102]; exact H) | exact H
          have Ny102 := Aside0.mk hy102
          clear hy102
          have H' := Aside0.mk H
          clear H
          go_wp2_with (first | ((with_reducible refine gate_builtin (b := .append) (xs := #[.tmp 6, .tmp 11]) rfl ?_); at_builtin; refine Kd.R_append (Kd.int .u8) (w0 := w) w.heap.size rfl (.tmp 6) (.tmp 11) 42 5 (.int .u8 0) 1 rfl Tryd.underlying42 info5 rfl (by decide) (by omega) u3 x3_1 (((Int.tmod x0_1 128) + 128) % 256) [.int .u8 (((Int.tmod x0_1 128) + 128) % 256)] (fun _ => True) (fun _ => False) rfl rfl ?aP (fun _ hk => hk.elim) ?aF ?aO ?aB ?aS ?aL ?_; (case aP => exact rfl); (case aB => exact (by repeat (first | (with_reducible first | exact HB.out | apply below_alloc | apply pw_below_drewN | apply below_drew1) | exact HB.out))); (case aF => exact (fun _ _ => trivial)); (case aO => exact (by (with_reducible repeat (first | apply Kd.R_alloc | apply Kd.R_drewN | apply Kd.R_drew)); exact HO_3.out)); (case aS => exact (below_size (by repeat (first | (with_reducible first | exact HB.out | apply below_alloc | apply pw_below_drewN | apply below_drew1) | exact HB.out)))); (case aL => have := LMc3.out; omega); intro v103 w4 ho hb hg hat; rw [← Ny102.out] at ho; have n0_ := Aside0.mk (hb); have n1_ := Aside0.mk (ho); clear HB; clear HO_3; have HB := n0_; have HO104 := n1_; clear n0_ n1_; clear ho hb hg hat))
          go_roundg k1
          case measure => have := HK1.out; omega
          case rel => exact ⟨(wrap64 (Int.tdiv x0_1 128)), (y102), (by first | rfl | (simp; done) | (simp [*]; done)), H', ⟨by have := HK1.out; omega⟩, ⟨by (with_reducible repeat (first | apply Kd.R_alloc | apply Kd.R_drewN | apply Kd.R_drew)); exact HO104.out⟩, ⟨by repeat (first | (with_reducible first | exact HB.out | apply below_alloc | apply pw_below_drewN | apply below_drew1) | exact HB.out)⟩⟩
        · rw [if_neg c3] at H
          exact absurd H (by simp)
      · rw [if_neg c2] at H
        have c2b0 : decide (128 ≤ x0_1) = false := decide_eq_false c2
        clear c2
        by_cases c5 : x3_1.length < 140737488355328
        · rw [if_pos c5] at H
          have LMc5 := Aside0.mk c5
          clear c5
          obtain ⟨y105, hy105⟩ : ∃ y_ : List Int, y_ = (x3_1 ++ [(x0_1) % 256]) := ⟨_, rfl⟩
          replace H : (some y105) = some r := by first | (rw [hy105]; with_reducible exact H) | (have H2_ := (Option.bind_some _ _).symm.trans H; rw [hy105]; with_reducible exact H2_) | (have H2_ := (Option.bind_some _ _).symm.trans H; with_reducible exact H2_) | with_reducible exact H | (rw [hy105]; exact H) | exact H
          have Ny105 := Aside0.mk hy105
          clear hy105
          obtain rfl := Option.some.inj H
          go_wp2_with (first | ((with_reducible refine gate_builtin (b := .append) (xs := #[.tmp 15, .tmp 18]) rfl ?_); at_builtin; refine Kd.R_append (Kd.int .u8) (w0 := w) w.heap.size rfl (.tmp 15) (.tmp 18) 42 5 (.int .u8 0) 1 rfl Tryd.underlying42 info5 rfl (by decide) (by omega) u3 x3_1 ((x0_1) % 256) [.int .u8 ((x0_1) % 256)] (fun _ => True) (fun _ => False) rfl rfl ?aP (fun _ hk => hk.elim) ?aF ?aO ?aB ?aS ?aL ?_; (case aP => exact rfl); (case aB => exact (by repeat (first | (with_reducible first | exact HB.out | apply below_alloc | apply pw_below_drewN | apply below_drew1) | exact HB.out))); (case aF => exact (fun _ _ => trivial)); (case aO => exact (by (with_reducible repeat (first | apply Kd.R_alloc | apply Kd.R_drewN | apply Kd.R_drew)); exact HO_3.out)); (case aS => exact (below_size (by repeat (first | (with_reducible first | exact HB.out | apply below_alloc | apply pw_below_drewN | apply below_drew1) | exact HB.out)))); (case aL => have := LMc5.out; omega); intro v106 w6 ho hb hg hat; rw [← Ny105.out] at ho; have n0_ := Aside0.mk (hb); have n1_ := Aside0.mk (ho); clear HB; clear HO_3; have HB := n0_; have HO107 := n1_; clear n0_ n1_; clear ho hb hg hat))
          go_ret
          exact ⟨_, by first | rfl | (simp [errW_none, errW_some] <;> rfl) | (simp [*, errW_none, errW_some] <;> rfl), by (with_reducible repeat (first | apply Kd.R_alloc | apply Kd.R_drewN | apply Kd.R_drew)); exact HO107.out, by repeat (first | (with_reducible first | exact HB.out | apply below_alloc | apply pw_below_drewN | apply below_drew1) | exact HB.out)⟩
        · rw [if_neg c5] at H
          exact absurd H (by simp)

-- NOT PRINTED: function 37 (strings_Builder_WriteString)

-- NOT PRINTED: function 38 (strings_Builder_String)

/-! ### num_Put: function 41 -/
def num_Put.l0 : Nat → Int → List Int → Int → Int → Option (ByteArray)
  | 0, _, _, _, _ => none
  | k + 1, x0, x5, x12, x13 => if x13 < x12 then (if 0 ≤ (wrap64 (8 * x13)) then (if 0 ≤ x13 then (if x13 < (x5.length : Int) then (num_Put.l0 k x0 (x5.set (x13 : Int).toNat ((shr .u64 x0 (wrap64 (8 * x13))) % 256)) x12 (wrap64 (x13 + 1))) else (none)) else (none)) else (none)) else (some (strOfNums x5))
def num_Put.f (k : Nat) (a0 : Int) (a1 : Int) : Option (ByteArray) := if 0 ≤ (mn (mx a1 0) 8) then (if (mn (mx a1 0) 8 : Int).toNat ≤ 281474976710656 then ((some (List.replicate (mn (mx a1 0) 8 : Int).toNat 0 : List Int)).bind fun y129 => (num_Put.l0 k a0 y129 (y129.length : Int) 0)) else (none)) else (none)
theorem num_Put.mono_l : ∀ k, (∀ y0 y1 y2 y3, LeO (num_Put.l0 k y0 y1 y2 y3) (num_Put.l0 (k + 1) y0 y1 y2 y3))
  | 0 => fun _ _ _ _ r h => by simp [num_Put.l0] at h
  | k + 1 => by
    have ih0 := num_Put.mono_l k
    · intro y0 y1 y2 y3
      unfold num_Put.l0
      repeat' first
      | (with_reducible exact ih0 _ _ _ _)
      | (with_reducible exact LeO.refl _)
      | (with_reducible exact LeO.none _)
      | (with_reducible refine LeO.ite ?_ ?_)
      | (with_reducible refine LeO.bind ?_ (fun _ => ?_))
      | exact ih0 _ _ _ _
      | exact LeO.none _
      | refine LeO.ite ?_ ?_
      | refine LeO.bind ?_ (fun _ => ?_)
theorem num_Put.mono : ∀ a0 a1 k, LeO (num_Put.f k a0 a1) (num_Put.f (k + 1) a0 a1) := by
  intro a0 a1 k
  have ih0 := num_Put.mono_l k
  unfold num_Put.f
  repeat' first
      | (with_reducible exact ih0 _ _ _ _)
      | (with_reducible exact LeO.refl _)
      | (with_reducible exact LeO.none _)
      | (with_reducible refine LeO.ite ?_ ?_)
      | (with_reducible refine LeO.bind ?_ (fun _ => ?_))
      | exact ih0 _ _ _ _
      | exact LeO.none _
      | refine LeO.ite ?_ ?_
      | refine LeO.bind ?_ (fun _ => ?_)
set_option maxHeartbeats 8000000 in
set_option maxRecDepth 100000 in
theorem num_Put.calls (k : Nat) (a0 : Int) (a1 : Int) (r : ByteArray) (w : World) (h : num_Put.f k a0 a1 = some r) :
    Calls Tryd.prog 41 #[.int .u64 a0, .int .i64 a1] w fun e w' => e = .returned (.string r) ∧ Below w.heap.size w w' := by
  have HB := Aside0.mk (Below.refl w.heap.size w)
  have H : (if 0 ≤ (mn (mx a1 0) 8) then (if (mn (mx a1 0) 8 : Int).toNat ≤ 281474976710656 then ((some (List.replicate (mn (mx a1 0) 8 : Int).toNat 0 : List Int)).bind fun y129 => (num_Put.l0 k a0 y129 (y129.length : Int) 0)) else (none)) else (none)) = some r := h
  clear h
  obtain ⟨ji3, hji3⟩ : ∃ j_ : Int, (mx a1 0) = j_ := ⟨_, rfl⟩
  replace H : (if 0 ≤ (mn (ji3) 8) then (if (mn (ji3) 8 : Int).toNat ≤ 281474976710656 then ((some (List.replicate (mn (ji3) 8 : Int).toNat 0 : List Int)).bind fun y129 => (num_Put.l0 k a0 y129 (y129.length : Int) 0)) else (none)) else (none)) = some r := by first | (rw [hji3] at H; exact H) | (simp only [hji3] at H ⊢; exact H)
  (try (have hji3l : 0 ≤ ji3 := by (rw [← hji3]; unfold mx; (repeat' split) <;> omega)))
  (try (have hji3m : 0 ≤ ji3 := by omega))
  have hji3_ : (if a1 < 0 then 0 else a1) = ji3 := hji3
  obtain ⟨ji4, hji4⟩ : ∃ j_ : Int, (mn (ji3) 8) = j_ := ⟨_, rfl⟩
  replace H : (if 0 ≤ (ji4) then (if (ji4 : Int).toNat ≤ 281474976710656 then ((some (List.replicate (ji4 : Int).toNat 0 : List Int)).bind fun y129 => (num_Put.l0 k a0 y129 (y129.length : Int) 0)) else (none)) else (none)) = some r := by first | (rw [hji4] at H; exact H) | (simp only [hji4] at H ⊢; exact H)
  have hji4_ : (if 8 < (ji3) then 8 else (ji3)) = ji4 := hji4
  by_cases c5 : 0 ≤ (ji4)
  · rw [if_pos c5] at H
    have c5b0 := eq_true c5
    have c5b1 : decide (0 ≤ (ji4)) = true := decide_eq_true c5
    clear c5
    by_cases c6 : (ji4 : Int).toNat ≤ 281474976710656
    · rw [if_pos c6] at H
      have c6b0 := eq_true c6
      have c6b1 : decide ((ji4 : Int).toNat ≤ 281474976710656) = true := decide_eq_true c6
      clear c6
      obtain ⟨y129, hy129⟩ : ∃ y_ : List Int, y_ = (List.replicate (ji4 : Int).toNat 0) := ⟨_, rfl⟩
      replace H : (num_Put.l0 k a0 y129 (y129.length : Int) 0) = some r := by first | (rw [hy129]; with_reducible exact H) | (have H2_ := (Option.bind_some _ _).symm.trans H; rw [hy129]; with_reducible exact H2_) | (have H2_ := (Option.bind_some _ _).symm.trans H; with_reducible exact H2_) | with_reducible exact H | (rw [hy129]; exact H) | exact H
      have Ny129 := Aside0.mk hy129
      clear hy129
      have H' := Aside0.mk H
      clear H
      go_enter Tryd.func41, Tryd.ntmps41
      go_wp2_with (first | ((with_reducible refine gate_dst (N := 10) rfl ?_); refine Kd.R_make (Kd.int .u8) _ 5 rfl (N := 10) rfl 42 _ _ rfl ji4 rfl rfl Tryd.underlying42 (.int .u8 0) 1 info5 rfl (by decide) (by omega) 0 (ok := fun _ => True) (okp := fun _ => True) rfl (fun _ hk => hk) trivial (of_decide_eq_true (by first | (with_reducible assumption) | assumption)) (Nat.le_trans (Nat.mul_le_mul_right _ (of_decide_eq_true (by first | (with_reducible assumption) | assumption) : ji4.toNat ≤ 281474976710656)) (by omega)) (Below.refl _ _) (Nat.le_refl _) ?_; intro v130 w7 ho8 hb hg_ hnew_; clear hg_ hnew_; (first | rw [← Ny129.out] at ho8 | (simp only [Int.reduceToNat] at ho8; rw [← Ny129.out] at ho8)); have n0_ := Aside0.mk (Kd.R_lower ho8 (below_size (by repeat (first | (with_reducible first | exact HB.out | apply below_alloc | apply pw_below_drewN | apply below_drew1) | exact HB.out)))); have n1_ := Aside0.mk (below_step (by repeat (first | (with_reducible first | exact HB.out | apply below_alloc | apply pw_below_drewN | apply below_drew1) | exact HB.out)) hb); clear HB; have HO131 := n0_; have HB := n1_; clear n0_ n1_; clear hb ho8; obtain ⟨Ao9, co9, eo9⟩ := Kd.R_slice HO131.out; subst eo9))
      go_loopg [13] k (fun kq v13 w' => ∃ (x5_1 : List Int) (x13_1 : Int), v13 = .int .i64 x13_1 ∧ Aside0 (num_Put.l0 kq a0 x5_1 (y129.length : Int) x13_1 = some r) ∧ Aside0 (kq ≤ k) ∧ Aside0 (Kd.R (Kd.int .u8) 5 w' w.heap.size (fun _ => True) (.slice Ao9 y129.length co9) x5_1) ∧ Aside0 (Below w.heap.size w w'))
      case atStart => exact ⟨(y129), (0), (by first | rfl | (simp; done) | (simp [*]; done)), H', ⟨Nat.le_refl _⟩, ⟨by (with_reducible repeat (first | apply Kd.R_alloc | apply Kd.R_drewN | apply Kd.R_drew)); exact HO131.out⟩, ⟨by repeat (first | (with_reducible first | exact HB.out | apply below_alloc | apply pw_below_drewN | apply below_drew1) | exact HB.out)⟩⟩
      case round =>
        clear H'
        try clear p2
        try clear c4
        try clear c5
        try clear c5b0
        try clear c5b1
        try clear c6
        try clear c6b0
        try clear c6b1
        obtain ⟨x5_1, x13_1, rfl, HA, HK1, HO_5, HB⟩ := hrel
        have hl5_1 := (Kd.R_reads' HO_5.out).1
        rw [hl5_1] at HO_5
        (try simp only [hl5_1])
        cases gk with
        | zero => exact absurd HA.out (by simp [num_Put.l0])
        | succ k1 =>
          have H := HA.out
          clear HA
          simp only [num_Put.l0] at H
          by_cases c10 : x13_1 < (y129.length : Int)
          · rw [if_pos c10] at H
            have c10b0 : decide (x13_1 < (y129.length : Int)) = true := decide_eq_true c10
            clear c10
            obtain ⟨ji11, hji11⟩ : ∃ j_ : Int, (wrap64 (8 * x13_1)) = j_ := ⟨_, rfl⟩
            replace H : (if 0 ≤ (ji11) then (if 0 ≤ x13_1 then (if x13_1 < (x5_1.length : Int) then (num_Put.l0 k1 a0 (x5_1.set (x13_1 : Int).toNat ((shr .u64 a0 (ji11)) % 256)) (y129.length : Int) (wrap64 (x13_1 + 1))) else (none)) else (none)) else (none)) = some r := by first | (rw [hji11] at H; exact H) | (simp only [hji11] at H ⊢; exact H)
            have hji11w : (IntKind.i64.wrap (8 * x13_1)) = ji11 := (i64_w _).trans hji11
            by_cases c12 : 0 ≤ (ji11)
            · rw [if_pos c12] at H
              have c12b0 := eq_true c12
              have c12b1 : decide (0 ≤ (ji11)) = true := decide_eq_true c12
              clear c12
              obtain ⟨ji13, hji13⟩ : ∃ j_ : Int, (shr .u64 a0 (ji11)) = j_ := ⟨_, rfl⟩
              replace H : (if 0 ≤ x13_1 then (if x13_1 < (x5_1.length : Int) then (num_Put.l0 k1 a0 (x5_1.set (x13_1 : Int).toNat ((ji13) % 256)) (y129.length : Int) (wrap64 (x13_1 + 1))) else (none)) else (none)) = some r := by first | (rw [hji13] at H; exact H) | (simp only [hji13] at H ⊢; exact H)
              have hji13_ : (a0 / 2 ^ min (ji11).toNat 64) = ji13 := hji13
              have hji13z : (ji11) ≤ 64 → (a0 / 2 ^ (ji11).toNat) = ji13 := shr_small hji13
              by_cases c14 : 0 ≤ x13_1
              · rw [if_pos c14] at H
                have c14b0 : decide (0 ≤ x13_1) = true := decide_eq_true c14
                clear c14
                by_cases c15 : x13_1 < (x5_1.length : Int)
                · rw [if_pos c15] at H
                  have c15b0 : decide (x13_1 < (x5_1.length : Int)) = true := decide_eq_true c15
                  clear c15
                  obtain ⟨y132, hy132⟩ : ∃ y_ : List Int, y_ = (x5_1.set (x13_1 : Int).toNat ((ji13) % 256)) := ⟨_, rfl⟩
                  replace H : (num_Put.l0 k1 a0 y132 (y129.length : Int) (wrap64 (x13_1 + 1))) = some r := by first | (rw [hy132]; with_reducible exact H) | (have H2_ := (Option.bind_some _ _).symm.trans H; rw [hy132]; with_reducible exact H2_) | (have H2_ := (Option.bind_some _ _).symm.trans H; with_reducible exact H2_) | with_reducible exact H | (rw [hy132]; exact H) | exact H
                  have Ny132 := Aside0.mk hy132
                  clear hy132
                  have H' := Aside0.mk H
                  clear H
                  have p16 : 0 ≤ (x13_1 : Int) := of_decide_eq_true (by first | (with_reducible assumption) | assumption)
                  have q16 : (x13_1 : Int) < ((x5_1.length : Int) : Int) := of_decide_eq_true (by first | (with_reducible assumption) | assumption)
                  obtain ⟨go16, co16, eo16, gb16, gl16, cl16, HG16⟩ := Kd.R_form HO_5.out (by omega)
                  (first | cases eo16 | (injection eo16 with ea_ en_ ec_; (first | subst ea_ | (injection ea_ with ea_; subst ea_)); subst ec_; clear en_))
                  have GB16 := Aside0.mk gb16
                  have GG16 := Aside0.mk HG16
                  clear gb16 gl16 HG16
                  obtain ⟨hx16_0, hf16_0⟩ := Kd.R_celln 0 HO_5.out (x13_1 : Int) p16 q16
                  replace p16 := eq_true p16
                  replace q16 := eq_true q16
                  have HP17 := Kd.R_putg HO_5.out (x13_1 : Int) ((ji13) % 256)
                  go_wp2_with (first | ((with_reducible refine gate_store (t := 5) (p := 23) rfl ?_); refine store_event (t := 5) (p := 23) (v := ?vo_w18) (w1 := (wr.setCell ⟨go16, (x13_1 : Int).toNat, none⟩ (.int .u8 ((ji13) % 256)))) ?hg ?ho ?hn ?hr ?_; (case ho => rfl); (case hg => rfl); (case hn => rfl); (case hr => first | (go_simp; done) | (go_simp; rfl)); intro w18 hw; have hg : wr.grownBy w18 (some go16) := (by rw [hw]; exact HP17.2); have hp_ : Kd.R (Kd.int .u8) 5 w18 w.heap.size (fun _ => True) (.slice (some ⟨go16, 0, none⟩) x5_1.length co9) y132 := (by rw [hw, Ny132.out]; exact HP17.1); clear HP17; have n0_ := Aside0.mk (hp_); have n1_ := Aside0.mk ((by rw [hw]; exact below_set (HB.out) GB16.out : Below w.heap.size w w18)); clear HO_5; clear HB; have HO_5 := n0_; have HB := n1_; clear n0_ n1_; clear hg hw hp_))
                  (try simp only [← hl5_1])
                  go_roundg k1
                  case measure => have := HK1.out; omega
                  case rel => exact ⟨(y132), (wrap64 (x13_1 + 1)), (by first | rfl | (simp; done) | (simp [*]; done)), H', ⟨by have := HK1.out; omega⟩, ⟨by (try simp only [hl5_1]); (with_reducible repeat (first | apply Kd.R_alloc | apply Kd.R_drewN | apply Kd.R_drew)); exact HO_5.out⟩, ⟨by repeat (first | (with_reducible first | exact HB.out | apply below_alloc | apply pw_below_drewN | apply below_drew1) | exact HB.out)⟩⟩
                · rw [if_neg c15] at H
                  exact absurd H (by simp)
              · rw [if_neg c14] at H
                exact absurd H (by simp)
            · rw [if_neg c12] at H
              exact absurd H (by simp)
          · rw [if_neg c10] at H
            have c10b0 : decide (x13_1 < (y129.length : Int)) = false := decide_eq_false c10
            clear c10
            obtain rfl := Option.some.inj H
            have hcv19 := own_string (P := Tryd.prog) Tryd.underlying42 Tryd.underlying5 Tryd.underlying9 (Kd.own_of_R HO_5.out)
            rw [hl5_1] at c10b0
            go_wp2
            go_ret
            exact ⟨by first | rfl | (simp [errW_none, errW_some] <;> rfl) | (simp only [← hji3, ← hji4]; first | rfl | (simp [errW_none, errW_some] <;> rfl)) | (simp [*, errW_none, errW_some] <;> rfl), by repeat (first | (with_reducible first | exact HB.out | apply below_alloc | apply pw_below_drewN | apply below_drew1) | exact HB.out)⟩
    · rw [if_neg c6] at H
      exact absurd H (by simp)
  · rw [if_neg c5] at H
    exact absurd H (by simp)

-- NOT PRINTED: function 86 (bytealg_IndexByteString)

-- NOT PRINTED: function 74 (stringslite_IndexByte)

-- NOT PRINTED: function 62 (strings_IndexByte)

-- NOT PRINTED: function 42 (hash_Of)

-- NOT PRINTED: function 18 (manifest_Bytes)

-- NOT PRINTED: function 10 (wire_Put)

-- NOT PRINTED: function 9 (hibernaclelaw44_awake)

-- NOT PRINTED: function 20 (hibernacleref44_SameSnap)

-- NOT PRINTED: function 11 (hibernacleref44_Same)

-- NOT PRINTED: function 3 (hibernaclelaw44_WireApart)

end Go.Proofs.YtokcmaehojljdaaDoor.PWire

/- strings.Builder: what its methods do, out of their text. -/
namespace Go.Proofs.YtokcmaehojljdaaDoor
open Go.RowKit Go.Proofs.YtokcmaehojljdaaDoorW.PrintWords Go.Proofs.YtokcmaehojljdaaDoorW.PrintLast Go.Proofs.YtokcmaehojljdaaDoorW.PrintMore

set_option maxHeartbeats 1000000 in
set_option maxRecDepth 100000 in
theorem copyCheck_any {w : World} {B b : Nat} {L : List Value} (h : Lib.IsBuilder 66 5 B b L w) :
    Calls Tryd.prog 61 #[.pointer (some ⟨b, 0, none⟩)] w fun e w' => e = .returned (.tuple #[]) ∧ Lib.BuilderAt 66 5 B b (.pointer (some ⟨b, 0, none⟩)) L w' ∧ Below B w w' ∧ (w' = w ∨ w' = w.setCell ⟨b, 0, none⟩ (.pointer (some ⟨b, 0, none⟩))) := by
  rcases h with h | h
  · have hsh := h.shape
    have k0 := h.cell0
    have f0 := h.frozen0
    obtain ⟨j, hj, hjs⟩ : ∃ j, Tryd.prog.info? 66 = some j ∧ j.size = 2 := by
      have e : (Tryd.prog.info? 66).map (·.size) = some 2 := by kernel_rfl
      obtain ⟨j, hj, hs⟩ := Option.map_eq_some_iff.1 e
      exact ⟨j, hj, hs⟩
    go_enter Tryd.func61, Tryd.ntmps61
    go_wp2
    rw [Lib.run_to_unsafe w ⟨b, 0, none⟩ Tryd.underlying64 Tryd.underlying101 hj (by rw [hjs]; decide) hsh (Nat.zero_lt_succ 1)]
    simp only [Result.andThen]
    rw [Oper.upon_value]
    go_wp2
    rw [run_callFunc_extern Tryd.func73 (by kernel_rfl) (by kernel_rfl) (by kernel_rfl) (e := Extern.AbiNoEscape.same) (by kernel_rfl)]
    rw [Lib.run_noEscape]
    simp only [Result.andThen]
    rw [Oper.upon_value]
    go_wp2
    rw [Lib.run_from_unsafe w ⟨b, 0, none⟩ Tryd.underlying101 Tryd.underlying64 hj hsh (by kernel_rfl)]
    simp only [Result.andThen]
    rw [Oper.upon_value]
    go_wp2
    go_end0
    exact ⟨rfl, h.used _, (Below.refl B w).setCell (p := ⟨b, 0, none⟩) h.1 _, .inr rfl⟩
  · have k0 := h.cell0
    obtain ⟨j, hj, hjs⟩ : ∃ j, Tryd.prog.info? 66 = some j ∧ j.size = 2 := by
      have e : (Tryd.prog.info? 66).map (·.size) = some 2 := by kernel_rfl
      obtain ⟨j, hj, hs⟩ := Option.map_eq_some_iff.1 e
      exact ⟨j, hj, hs⟩
    go_enter Tryd.func61, Tryd.ntmps61
    go_wp2
    rw [Lib.run_neq_ptr_same w _ Tryd.underlying64 hj]
    go_wp2
    go_end0
    exact ⟨rfl, h, Below.refl B w, .inl rfl⟩

theorem add_block (a : Addr) (j : Nat) : (a.add j).block = a.block := by unfold Addr.add; split <;> rfl
theorem Bd_parts {w : World} {B b : Nat} {q : Value} {L : List Value} (h : Lib.BuilderAt 66 5 B b q L w) :
    ∃ A c, w.heap[b]? = some (.cells #[q, .slice A L.length c] 66 (0, 0)) ∧ w.ownsRow B 5 1 (.slice A L.length c) L.length L ∧ (Value.slice A L.length c).ownBlock ≠ some b := by
  obtain ⟨hB, v, hr, ho, hn⟩ := h
  rcases ho.2 with ⟨rfl, h0⟩ | ⟨g, cap, cur, rfl, _⟩
  · exact ⟨none, 0, by rw [h0]; exact hr, by rw [h0]; rw [h0] at ho; exact ho, by simp [Value.ownBlock]⟩
  · exact ⟨_, _, hr, ho, hn⟩

set_option maxHeartbeats 2000000 in
set_option maxRecDepth 100000 in
theorem write_any {w : World} {B b : Nat} {L : List Value} (h : Lib.IsBuilder 66 5 B b L w) (ad : Addr) (m c : Nat) (news : List Value) (hl : news.length = m) (hm : 0 < m)
    (hnews : ∀ j u, news[j]? = some u → w.cell? (ad.add j) = some u) (hadB : ad.block ≠ b) (h1 : ∀ u ∈ news, u.oneCell' = true) (hlen : L.length + m ≤ 140737488355328) (hBw : B ≤ w.heap.size) :
    Calls Tryd.prog 35 #[.pointer (some ⟨b, 0, none⟩), .slice (some ad) m c] w fun e w' => (∃ v, e = .returned v) ∧ Lib.IsBuilder 66 5 B b (L ++ news) w' ∧ Below B w w' := by
  go_enter Tryd.func35, Tryd.ntmps35
  go_upto_region 1 with (fail)
  go_wp2_with fail
  refine (copyCheck_any h).mono ?_
  rintro e w1 ⟨rfl, hb, hbel, hw1⟩
  obtain ⟨A, cc, hr, ho, hn⟩ := Bd_parts hb
  have k1 : w1.cell? ⟨b, 1, none⟩ = some (.slice A L.length cc) := cell_of_row w1 b 1 _ 66 _ hr
  have hnews' : ∀ j u, news[j]? = some u → w1.cell? (ad.add j) = some u := by
    intro j u hu
    rcases hw1 with rfl | rfl
    · exact hnews j u hu
    · rw [World.cell?_setCell_other _ _ _ _ (by intro e; exact hadB ((add_block ad j).symm.trans (congrArg Addr.block e).symm))]
      exact hnews j u hu
  obtain ⟨i5, hi5, hi5'⟩ := Option.map_eq_some_iff.1 PWire.info5
  simp only [Prod.mk.injEq] at hi5'
  obtain ⟨hi5z, hi5s, hi5b⟩ := hi5'
  have hB1 : B ≤ w1.heap.size := Nat.le_trans hBw hbel.size
  clear hw1 hnews
  go_wp2_with (refine wpList_append_lies w1 rfl (.tmp 12) (.tmp 13) 42 rfl B 5 i5 (.int .u8 0) 1 1 Tryd.underlying42 hi5 hi5z hi5s hi5b rfl (by omega) _ L.length L rfl ho ad m c news rfl (by omega) hnews' h1 hm (by unfold maxLen; omega) (by omega) hB1 _ rfl ?_)
  intro g cap w2 hown hgrow hat hlt2
  have hr2 : w2.heap[b]? = some (.cells #[.pointer (some ⟨b, 0, none⟩), .slice A L.length cc] 66 (0, 0)) := (hgrow.block b (Array.getElem?_eq_some_iff.1 hr).1 (fun e => hn e.symm)).trans hr
  have k2 : w2.cell? ⟨b, 1, none⟩ = some (.slice A L.length cc) := cell_of_row w2 b 1 _ 66 _ hr2
  have f2 : w2.frozen? ⟨b, 1, none⟩ = false := frozen_of_row w2 b 1 _ 66 hr2
  have hbl := hb.lt
  have hgb : g ≠ b := by
    rcases hat with e | e
    · intro e2; exact hn (by rw [e, e2])
    · omega
  clear k1
  go_wp2_with fail
  go_ret2
  have hb3 : Lib.BuilderAt 66 5 B b (.pointer (some ⟨b, 0, none⟩)) (L ++ news) (w2.setCell ⟨b, 1, none⟩ (.slice (some ⟨g, 0, none⟩) (L.length + m) cap)) := by
    refine ⟨hb.1, .slice (some ⟨g, 0, none⟩) (L.length + m) cap, heap_setCell_same w2 b 1 _ 66 _ hr2, ?_, fun e => hgb (by injection e)⟩
    rw [List.length_append, hl]
    refine own_move hown (fun k hk => heap_setCell_other w2 ⟨b, 1, none⟩ k _ ?_)
    have : g = k := by injection hk
    show k ≠ b
    omega
  have hbel2 : Below B w1 w2 := ⟨hgrow.os, hgrow.tape, hgrow.output, hgrow.size, fun k hk => hgrow.block k (by omega) (fun e => by have := (ho.lt k e.symm).1; omega)⟩
  exact ⟨⟨_, rfl⟩, .inr hb3, (hbel.trans hbel2).setCell hb.1 _⟩

set_option maxHeartbeats 2000000 in
set_option maxRecDepth 100000 in
theorem writeString_any {w : World} {B b : Nat} {L : List Value} (h : Lib.IsBuilder 66 5 B b L w) (s : ByteArray) (hlen : L.length + s.size ≤ 140737488355328) (hBw : B ≤ w.heap.size) :
    Calls Tryd.prog 37 #[.pointer (some ⟨b, 0, none⟩), .string s] w fun e w' => (∃ v, e = .returned v) ∧ Lib.IsBuilder 66 5 B b (L ++ Lib.strCells s) w' ∧ Below B w w' := by
  go_enter Tryd.func37, Tryd.ntmps37
  go_upto_region 1 with (fail)
  go_wp2_with fail
  refine (copyCheck_any h).mono ?_
  rintro e w1 ⟨rfl, hb, hbel, _⟩
  obtain ⟨A, cc, hr, ho, hn⟩ := Bd_parts hb
  have k1 : w1.cell? ⟨b, 1, none⟩ = some (.slice A L.length cc) := cell_of_row w1 b 1 _ 66 _ hr
  obtain ⟨i5, hi5, hi5'⟩ := Option.map_eq_some_iff.1 PWire.info5
  simp only [Prod.mk.injEq] at hi5'
  obtain ⟨hi5z, hi5s, hi5b⟩ := hi5'
  have hB1 : B ≤ w1.heap.size := Nat.le_trans hBw hbel.size
  go_wp2_with (refine Lib.wpList_append_own_string w1 rfl (.tmp 12) (.tmp 13) 42 9 rfl B 5 i5 Tryd.underlying42 Tryd.underlying9 hi5 hi5z hi5s hi5b _ L.length L rfl ho s rfl (by unfold maxLen; omega) (by omega) hB1 ?_)
  intro v2 w2 hown hgrow hnil
  have hr2 : w2.heap[b]? = some (.cells #[.pointer (some ⟨b, 0, none⟩), .slice A L.length cc] 66 (0, 0)) := (hgrow.block b (Array.getElem?_eq_some_iff.1 hr).1 (fun e => hn e.symm)).trans hr
  have k2 : w2.cell? ⟨b, 1, none⟩ = some (.slice A L.length cc) := cell_of_row w2 b 1 _ 66 _ hr2
  have f2 : w2.frozen? ⟨b, 1, none⟩ = false := frozen_of_row w2 b 1 _ 66 hr2
  have hgb : v2.ownBlock ≠ some b := by
    intro e
    obtain ⟨cells, hc⟩ := own_typed hown b e
    rw [hr2] at hc
    cases hc
  obtain ⟨A2, c2, rfl⟩ : ∃ A2 c2, v2 = .slice A2 (L.length + s.size) c2 := by
    rcases hown.2 with ⟨rfl, h0⟩ | ⟨g, cap, cur, rfl, _⟩
    · exact ⟨none, 0, by rw [h0]⟩
    · exact ⟨_, _, rfl⟩
  clear k1
  go_wp2_with fail
  go_ret2
  have hll : (L ++ Lib.strCells s).length = L.length + s.size := by rw [List.length_append, Lib.strCells_length]
  have hb3 : Lib.BuilderAt 66 5 B b (.pointer (some ⟨b, 0, none⟩)) (L ++ Lib.strCells s) (w2.setCell ⟨b, 1, none⟩ (.slice A2 (L.length + s.size) c2)) := by
    refine ⟨hb.1, .slice A2 (L.length + s.size) c2, heap_setCell_same w2 b 1 _ 66 _ hr2, ?_, hgb⟩
    rw [hll]
    exact own_move hown (fun k hk => heap_setCell_other w2 ⟨b, 1, none⟩ k _ (fun e => hgb (by rw [hk]; exact congrArg some e)))
  have hbel2 : Below B w1 w2 := ⟨hgrow.os, hgrow.tape, hgrow.output, hgrow.size, fun k hk => hgrow.block k (by omega) (fun e => by have := (ho.lt k e.symm).1; omega)⟩
  exact ⟨⟨_, rfl⟩, .inr hb3, (hbel.trans hbel2).setCell hb.1 _⟩
end Go.Proofs.YtokcmaehojljdaaDoor

/- num.Row: what it computes, and its walk. -/

namespace Go.Proofs.YtokcmaehojljdaaDoor
open Go.RowKit Go.Proofs.YtokcmaehojljdaaDoorW.PrintWords Go.Proofs.YtokcmaehojljdaaDoorW.PrintLast Go.Proofs.YtokcmaehojljdaaDoorW.PrintMore

/-- A length, as bytes. -/
def lenU (n : Nat) : List UInt8 := if n < 128 then [UInt8.ofNat n] else UInt8.ofNat (n % 128 + 128) :: lenU (n / 128)
termination_by n
decreasing_by omega
/-- A row's bytes. -/
def rowU (l : List ByteArray) : List UInt8 := l.flatMap fun s => lenU s.size ++ s.data.toList
def num_Row.f (l0 : List ByteArray) : Option ByteArray := if (rowU l0).length ≤ 140737488355328 then some ⟨(rowU l0).toArray⟩ else none

def intsU (l : List UInt8) : List Int := l.map fun u => (u.toNat : Int)
theorem encs_intsU (l : List UInt8) : encs (Value.int .u8) (intsU l) = Lib.byteCells l := by simp [encs, intsU, Lib.byteCells]
theorem lenU_pos (n : Nat) : 0 < (lenU n).length := by rw [lenU]; split <;> simp
theorem lenU_len : ∀ k n, n < 128 ^ (k + 1) → (lenU n).length ≤ k + 1
  | 0, n, h => by rw [lenU, if_pos (by simpa using h)]; simp
  | k + 1, n, h => by
    rw [lenU]
    split
    · simp
    · have := lenU_len k (n / 128) (by rw [Nat.pow_succ] at h; omega)
      simp; omega
theorem length_pure : ∀ (k n : Nat) (acc : List Int), n < 128 ^ k → 0 < k → n ≤ 9223372036854775807 → acc.length + k < 140737488355328 → PWire.num_length.l0 k n acc = some (acc ++ intsU (lenU n))
  | 0, n, acc, h, h0, _, _ => absurd h0 (by decide)
  | k + 1, n, acc, h, _, hn, ha => by
    rw [PWire.num_length.l0]
    by_cases c : n < 128
    · rw [if_neg (by omega), if_pos (by omega), lenU, if_pos c]
      simp [intsU]
    · have e1 : wrap64 (Int.tdiv (n : Int) 128) = ((n / 128 : Nat) : Int) := by
        rw [Int.tdiv_eq_ediv_of_nonneg (by omega)]; unfold wrap64; omega
      have e2 : (Int.tmod (n : Int) 128 + 128) % 256 = ((n % 128 + 128 : Nat) : Int) := by
        rw [Int.tmod_eq_emod_of_nonneg (by omega)]; omega
      rw [if_pos (by omega), if_pos (by omega), e1, e2, length_pure k (n / 128) _ (by rw [Nat.pow_succ] at h; omega) (by rcases k with _ | k; (simp at h; omega); omega) (by omega) (by simp; omega), lenU.eq_1 n, if_neg c]
      simp [intsU]
      omega
set_option maxRecDepth 100000 in
theorem length_any (n : Nat) (hn : n ≤ 9223372036854775807) (w : World) :
    Calls Tryd.prog 36 #[.int .i64 n] w fun e w' => (∃ g c, e = .returned (.slice (some ⟨g, 0, none⟩) (lenU n).length c) ∧ w.heap.size ≤ g ∧ ∀ j u, (Lib.byteCells (lenU n))[j]? = some u → w'.cell? ((⟨g, 0, none⟩ : Addr).add j) = some u) ∧ Below w.heap.size w w' := by
  refine (PWire.num_length.calls 20 n (intsU (lenU n)) w ?_).mono ?_
  · exact length_pure 20 n [] (Nat.lt_of_le_of_lt hn (by decide)) (by decide) hn (by simp)
  rintro e w' ⟨v, rfl, hR, hb⟩
  refine ⟨?_, hb⟩
  have hown := Kd.own_of_R hR
  rw [encs_intsU] at hown
  have hp := lenU_pos n
  have hl : (intsU (lenU n)).length = (lenU n).length := by simp [intsU]
  rw [hl] at hown
  obtain ⟨g, cap, rfl, hg, hlt⟩ := hown.form hp
  exact ⟨g, cap, rfl, hg, hown.cells rfl⟩
theorem rowU_take (l : List ByteArray) (i : Nat) (s : ByteArray) (h : l[i]? = some s) : rowU (l.take (i + 1)) = rowU (l.take i) ++ lenU s.size ++ s.data.toList := by
  have : l.take (i + 1) = l.take i ++ [s] := by rw [List.take_add_one, h]; rfl
  rw [this]
  simp [rowU]
theorem rowU_mono (l : List ByteArray) (i : Nat) : (rowU (l.take i)).length ≤ (rowU l).length := by
  have : rowU l = rowU (l.take i) ++ rowU (l.drop i) := by
    unfold rowU
    rw [← List.flatMap_append, List.take_append_drop]
  rw [this]; simp

theorem isBuilder_kept {w w' : World} {B b : Nat} {L : List Value} (h : Lib.IsBuilder 66 5 B b L w) (hb : Below w.heap.size w w') : Lib.IsBuilder 66 5 B b L w' := by
  have k : ∀ q, Lib.BuilderAt 66 5 B b q L w → Lib.BuilderAt 66 5 B b q L w' := fun q hq => by
    have hl := hq.lt
    obtain ⟨h1, v, h2, h3, h4⟩ := hq
    exact ⟨h1, v, (hb.block b hl).trans h2, own_move h3 (fun k hk => hb.block k (h3.lt k hk).2), h4⟩
  exact h.imp (k _) (k _)
theorem byteCells_one (l : List UInt8) : ∀ u ∈ Lib.byteCells l, u.oneCell' = true := by
  intro u hu
  simp only [Lib.byteCells, List.mem_map] at hu
  obtain ⟨x, _, rfl⟩ := hu
  rfl
theorem rowU_count : ∀ l : List ByteArray, l.length ≤ (rowU l).length
  | [] => by simp
  | s :: l => by
    have ih := rowU_count l
    have := lenU_pos s.size
    have e : rowU (s :: l) = lenU s.size ++ (s.data.toList ++ rowU l) := by simp [rowU]
    rw [e, List.length_append, List.length_append, List.length_cons]
    omega

set_option maxHeartbeats 2000000 in
set_option maxRecDepth 100000 in
theorem num_Row.calls (A0 : Option Addr) (c0 : Nat) (l0 : List ByteArray) (r : ByteArray) (w : World) (hr0 : Kd.C Kd.string w A0 l0.length l0) (_hc0 : l0.length ≤ c0) (h : num_Row.f l0 = some r) :
    Calls Tryd.prog 17 #[.slice A0 l0.length c0] w fun e w' => e = .returned (.string r) ∧ Below w.heap.size w w' := by
  obtain ⟨hlen, rfl⟩ : (rowU l0).length ≤ 140737488355328 ∧ r = ⟨(rowU l0).toArray⟩ := by
    unfold num_Row.f at h
    split at h
    · exact ⟨by assumption, (Option.some.inj h).symm⟩
    · cases h
  clear h
  go_enter Tryd.func17, Tryd.ntmps17
  go_upto_block 0 with (fail)
  have hb0 : Below w.heap.size w (w.alloc (.cells #[.pointer none, .slice none 0 0] 66)) := (Below.refl _ w).alloc (Nat.le_refl _) _
  have hB0 : Lib.IsBuilder 66 5 w.heap.size w.heap.size (Lib.byteCells (rowU (l0.take 0))) (w.alloc (.cells #[.pointer none, .slice none 0 0] 66)) :=
    .inl ⟨Nat.le_refl _, .slice none 0 0, heap_alloc_new w _, by simp [rowU, Lib.byteCells]; exact World.ownsRow_nil _ _ _ _, by simp [Value.ownBlock]⟩
  have hll := rowU_count l0
  generalize w.alloc (.cells #[.pointer none, .slice none 0 0] 66) = W0 at *
  go_wp2_with fail
  go_loopw [8] (fun v8 wr => ∃ i : Nat, i ≤ l0.length ∧ v8 = .int .i64 i ∧ Lib.IsBuilder 66 5 w.heap.size w.heap.size (Lib.byteCells (rowU (l0.take i))) wr ∧ Below w.heap.size w wr) (fun v8 _ => l0.length - (intOf v8).toNat)
  case atStart => exact ⟨0, by omega, rfl, hB0, hb0⟩
  case round =>
    clear hB0 hb0
    obtain ⟨i, hi, rfl, hB, hb⟩ := hrel
    by_cases hlt : i < l0.length
    · have hd : decide ((i : Int) < l0.length) = true := decide_eq_true (by omega)
      obtain ⟨ad, e, hx⟩ := Kd.at_string (Kd.C_below hr0 hb) (i : Int) (by omega) (by omega)
      cases e
      obtain ⟨s, hs⟩ : ∃ s, l0[i]? = some s := ⟨_, List.getElem?_eq_getElem hlt⟩
      have hx' : wr.cell? (ad.add i) = some (.string s) := by
        have e2 : rdOf ByteArray.empty l0 (i : Int) = s := by simp [rdOf, List.getD_eq_getElem?_getD, hs]
        rw [e2] at hx
        exact hx
      have p1 : (0 ≤ (i : Int)) = True := eq_true (by omega)
      have q1 : ((i : Int) < l0.length) = True := eq_true (by omega)
      have htk := rowU_take l0 i s hs
      have hmo := rowU_mono l0 (i + 1)
      rw [htk] at hmo
      simp only [List.length_append] at hmo
      have hsz : s.data.toList.length = s.size := by simp
      clear hx
      go_wp2_with fail
      refine (length_any s.size (by omega) _).mono ?_
      rintro e w1 ⟨⟨g, c, rfl, hg, hcells⟩, hb1⟩
      have hBw : w.heap.size < wr.heap.size := by rcases hB with h | h <;> exact h.lt
      have hB1 : Lib.IsBuilder 66 5 w.heap.size w.heap.size (Lib.byteCells (rowU (l0.take i))) w1 := isBuilder_kept hB hb1
      have hb1' := hb.trans (hb1.mono hb.size)
      go_wp2_with fail
      refine (write_any hB1 ⟨g, 0, none⟩ (lenU s.size).length c (Lib.byteCells (lenU s.size)) (Lib.byteCells_length _) (lenU_pos _) hcells (by show g ≠ _; omega) (byteCells_one _) (by rw [Lib.byteCells_length]; omega) hb1'.size).mono ?_
      rintro e w2 ⟨⟨v, rfl⟩, hB2, hb2⟩
      have hb2' := hb1'.trans hb2
      go_wp2_with fail
      refine (writeString_any hB2 s (by rw [List.length_append, Lib.byteCells_length, Lib.byteCells_length]; omega) hb2'.size).mono ?_
      rintro e w3 ⟨⟨v, rfl⟩, hB3, hb3⟩
      have hb3' := hb2'.trans hb3
      have e3 : Lib.byteCells (rowU (l0.take i)) ++ Lib.byteCells (lenU s.size) ++ Lib.strCells s = Lib.byteCells (rowU (l0.take (i + 1))) := by
        rw [htk]; simp [Lib.byteCells, Lib.strCells]
      rw [e3] at hB3
      clear hB hB1 hB2 hb hb1 hb1' hb2 hb2' hb3 e3
      go_wp2_with fail
      go_roundw
      case rel => exact ⟨i + 1, by omega, by go_num, hB3, hb3'⟩
      case measure => simp [intOf]; omega
    · have hd : decide ((i : Int) < l0.length) = false := decide_eq_false (by omega)
      rw [List.take_of_length_le (by omega)] at hB
      go_wp2_with fail
      refine (Tryd.Builder_String_any w.heap.size w.heap.size (rowU l0) wr hB hb.size).mono ?_
      rintro e w1 ⟨rfl, hb1⟩
      go_wp2_with fail
      go_ret
      exact ⟨rfl, hb.trans hb1⟩
end Go.Proofs.YtokcmaehojljdaaDoor

/- A snapshot and a message: what they are, and how they lie in memory. -/
namespace Go.Proofs.YtokcmaehojljdaaDoor
open Go.RowKit Go.Proofs.YtokcmaehojljdaaDoorW.PrintWords Go.Proofs.YtokcmaehojljdaaDoorW.PrintLast Go.Proofs.YtokcmaehojljdaaDoorW.PrintMore

structure Sn where
  mach : ByteArray
  n : Int
  at_ : Int
  clock : Int
  pages : Int
  blocks : Int
  l0 : List ByteArray
  l1 : List ByteArray
  l2 : List ByteArray
  sum : List UInt8
structure Ms where
  kind : Int
  data : ByteArray
  snap : Sn
  n : Int
  why : Int
def snL (s : Sn) (v0 v1 v2 : Value) : List Value := [.string s.mach, .int .i64 s.n, .int .i64 s.at_, .int .u64 s.clock, .int .i64 s.pages, .int .i64 s.blocks, v0, v1, v2] ++ Lib.byteCells s.sum
def msL (m : Ms) (v0 v1 v2 : Value) : List Value := [.int .i64 m.kind, .string m.data] ++ (snL m.snap v0 v1 v2 ++ [.int .i64 m.n, .int .i64 m.why])
/-- The lists and the sum that a snapshot holds, in this world. -/
structure SnOk (w : World) (s : Sn) (v0 v1 v2 : Value) : Prop where
  h0 : TextsAt w v0 s.l0
  h1 : TextsAt w v1 s.l1
  h2 : TextsAt w v2 s.l2
  hs : s.sum.length = 32
  hm : s.mach.size ≤ 140737488351232
  hn : -9223372036854775808 ≤ s.n ∧ s.n ≤ 9223372036854775807
  hat : -9223372036854775808 ≤ s.at_ ∧ s.at_ ≤ 9223372036854775807
  hc : 0 ≤ s.clock ∧ s.clock ≤ 18446744073709551615
  hp : -9223372036854775808 ≤ s.pages ∧ s.pages ≤ 9223372036854775807
  hb : -9223372036854775808 ≤ s.blocks ∧ s.blocks ≤ 9223372036854775807
structure MsOk (w : World) (m : Ms) (v0 v1 v2 : Value) : Prop where
  snap : SnOk w m.snap v0 v1 v2
  hk : -9223372036854775808 ≤ m.kind ∧ m.kind ≤ 9223372036854775807
  hd : m.data.size ≤ 140737488351232
  hn : -9223372036854775808 ≤ m.n ∧ m.n ≤ 9223372036854775807
  hw : -9223372036854775808 ≤ m.why ∧ m.why ≤ 9223372036854775807
theorem TextsAt.below {w w' : World} {v : Value} {l : List ByteArray} (h : TextsAt w v l) (hb : Below w.heap.size w w') : TextsAt w' v l := by
  obtain ⟨A, c, h1, h2, h3, h4⟩ := h
  exact ⟨A, c, h1, h2, Kd.C_below h3 hb, h4⟩
theorem SnOk.below {w w' : World} {s : Sn} {v0 v1 v2 : Value} (h : SnOk w s v0 v1 v2) (hb : Below w.heap.size w w') : SnOk w' s v0 v1 v2 :=
  ⟨h.h0.below hb, h.h1.below hb, h.h2.below hb, h.hs, h.hm, h.hn, h.hat, h.hc, h.hp, h.hb⟩
theorem MsOk.below {w w' : World} {m : Ms} {v0 v1 v2 : Value} (h : MsOk w m v0 v1 v2) (hb : Below w.heap.size w w') : MsOk w' m v0 v1 v2 := ⟨h.snap.below hb, h.hk, h.hd, h.hn, h.hw⟩
theorem snL_len {s : Sn} {v0 v1 v2 : Value} (h : s.sum.length = 32) : (snL s v0 v1 v2).length = 41 := by simp [snL, Lib.byteCells_length, h]
theorem msL_len {m : Ms} {v0 v1 v2 : Value} (h : m.snap.sum.length = 32) : (msL m v0 v1 v2).length = 45 := by simp [msL, snL_len h]
theorem Row.at_ {w : World} {b t : Nat} {L : List Value} (h : Row w b t L.toArray) (j : Nat) : w.cell? ⟨b, j, none⟩ = L[j]? := h.get.trans (by simp)

/-! ### Loads -/
theorem run_load_list {P : Program} (w : World) (b o : Nat) (t ty : TypeId) (L V : List Value) (d : TypeDesc) (hg : Row w b t L.toArray)
    (hp : ∀ j v, V[j]? = some v → L[o + j]? = some v) (hu : P.underlying ty = some d) (hd : (match d with | .struct _ | .array _ _ => true | _ => false) = true)
    (hi : (P.info? ty).map (·.size) = some V.length) : (loadVar ty ⟨b, o, none⟩).run P w = .ok (.agg V.toArray) w := by
  have hl : (loadCells ⟨b, o, none⟩ V.length).run P w = .ok V.toArray w :=
    run_loadCells_list (P := P) w ⟨b, o, none⟩ V (fun j v hv => by
      have hadd : (⟨b, o, none⟩ : Addr).add j = ⟨b, o + j, none⟩ := by unfold Addr.add; split <;> simp_all
      rw [hadd, hg.at_, hp j v hv])
  cases hq : P.info? ty with
  | none => simp [hq] at hi
  | some i =>
    have hs : i.size = V.length := by simpa [hq] using hi
    have hagg : (isAgg ty).run P w = .ok true w := by
      unfold isAgg
      rw [Sem.run_bind, run_underlying hu w]
      cases d <;> simp_all
    simp [loadVar, Sem.run_bind, hagg, sizeOf, typeInfo, hq, hs, hl]
theorem wp_load_list {P : Program} {o : Oper} {a : Act} {w : World} {K : Act → World → Prop} {Q : Exit → Act → World → Prop} (ty : TypeId) (x : Operand) (ho : o.op = .load ty x)
    (b off : Nat) (hx : a.eval x = .pointer (some ⟨b, off, none⟩)) (V : Array Value) (hl : (loadVar ty ⟨b, off, none⟩).run P w = .ok (.agg V) w)
    (h : K (a.put o.dst (.agg V)) w) : o.wp P a w K Q := by
  unfold Oper.wp execOp
  simp only [ho, hx, Instr.loadAt, Instr.sureAddr, Sem.run_bind, Sem.run_pure, Result.andThen_ok, hl]
  exact h
theorem wpList_load_list {P : Program} {ops : Array Oper} {rest : List Oper} {o : Oper} {a : Act} {w : World} {Q : Exit → Act → World → Prop} (hw : Region.wanted o (yielded ops a.tmps) = true) (ty : TypeId) (x : Operand) (ho : o.op = .load ty x)
    (b off : Nat) (hx : a.eval x = .pointer (some ⟨b, off, none⟩)) (V : Array Value) (hl : (loadVar ty ⟨b, off, none⟩).run P w = .ok (.agg V) w)
    (h : wpList P ops Q rest (a.put o.dst (.agg V)) w) : wpList P ops Q (o :: rest) a w :=
  wpList_step fun K hK => by
    rw [if_pos hw]
    exact wp_load_list ty x ho b off hx V hl (hK _ _ h)
theorem wq_load_list {P : Program} {ops : Array Oper} {C : World → Prop} {K : Act → Prop} {a : Act} {o : Oper} (hw : Region.wanted o (yielded ops a.tmps) = true) (ty : TypeId) (x : Operand) (ho : o.op = .load ty x)
    (b off : Nat) (hx : a.eval x = .pointer (some ⟨b, off, none⟩)) (V : Array Value) (hl : ∀ w, C w → (loadVar ty ⟨b, off, none⟩).run P w = .ok (.agg V) w)
    (hn : K (a.put o.dst (.agg V))) : if Region.wanted o (yielded ops a.tmps) then o.quiet P a C K else K (a.put o.dst undef) :=
  wq_value hw (fun w hC => by
    unfold execOp
    simp only [ho, hx, Instr.loadAt, Instr.sureAddr, Sem.run_bind, Sem.run_pure, Result.andThen_ok, hl w hC]) hn
theorem sn_whole {w : World} {b : Nat} {s : Sn} {v0 v1 v2 : Value} (h : Row w b 28 (snL s v0 v1 v2).toArray) (hs : s.sum.length = 32) : (loadVar 28 ⟨b, 0, none⟩).run Tryd.prog w = .ok (.agg (snL s v0 v1 v2).toArray) w :=
  run_load_list w b 0 28 28 _ _ _ h (fun j v hv => by rw [Nat.zero_add]; exact hv) Tryd.underlying28 rfl (by rw [snL_len hs]; kernel_rfl)
theorem ms_whole {w : World} {b : Nat} {m : Ms} {v0 v1 v2 : Value} (h : Row w b 31 (msL m v0 v1 v2).toArray) (hs : m.snap.sum.length = 32) : (loadVar 31 ⟨b, 0, none⟩).run Tryd.prog w = .ok (.agg (msL m v0 v1 v2).toArray) w :=
  run_load_list w b 0 31 31 _ _ _ h (fun j v hv => by rw [Nat.zero_add]; exact hv) Tryd.underlying31 rfl (by rw [msL_len hs]; kernel_rfl)
theorem ms_snap {w : World} {b : Nat} {m : Ms} {v0 v1 v2 : Value} (h : Row w b 31 (msL m v0 v1 v2).toArray) (hs : m.snap.sum.length = 32) : (loadVar 28 ⟨b, 2, none⟩).run Tryd.prog w = .ok (.agg (snL m.snap v0 v1 v2).toArray) w :=
  run_load_list w b 2 31 28 _ _ _ h (fun j v hv => by
    have hj := (List.getElem?_eq_some_iff.1 hv).1
    rw [msL, List.getElem?_append_right (by simp), List.getElem?_append_left (by simp; omega)]
    simpa using hv) Tryd.underlying28 rfl (by rw [snL_len hs]; kernel_rfl)
theorem sn_sum {w : World} {b : Nat} {s : Sn} {v0 v1 v2 : Value} (h : Row w b 28 (snL s v0 v1 v2).toArray) (hs : s.sum.length = 32) : (loadVar 26 ⟨b, 9, none⟩).run Tryd.prog w = .ok (.agg (Lib.byteCells s.sum).toArray) w :=
  run_load_list w b 9 28 26 _ _ _ h (fun j v hv => by
    rw [snL, List.getElem?_append_right (by simp)]
    simpa using hv) Tryd.underlying26 rfl (by rw [Lib.byteCells_length, hs]; kernel_rfl)
/-- '==' of two digests. -/
theorem sum_eq (w : World) (xs ys : List UInt8) (hx : xs.length = 32) (hy : ys.length = 32) : (binOp .eql 26 (.agg (Lib.byteCells xs).toArray) (.agg (Lib.byteCells ys).toArray)).run Tryd.prog w = .ok (.bool (xs == ys)) w :=
  run_eql_bytes (P := Tryd.prog) (w := w) 26 5 32 Tryd.underlying26 Tryd.underlying5 (fun w => by kernel_rfl) xs ys hx hy
theorem wpList_value {P : Program} {ops : Array Oper} {rest : List Oper} {o : Oper} {a : Act} {w : World} {Q : Exit → Act → World → Prop} {v : Value} (hw : Region.wanted o (yielded ops a.tmps) = true)
    (h : (execOp a.eval o).run P w = .ok (.value v) w) (hn : wpList P ops Q rest (a.put o.dst v) w) : wpList P ops Q (o :: rest) a w :=
  wpList_step fun K hK => by
    rw [if_pos hw]
    unfold Oper.wp
    rw [h]
    exact hK _ _ hn
theorem zero_sum : (Lib.byteCells (List.replicate 32 0)).toArray = Array.replicate 32 (.int .u8 0) := by
  rfl
end Go.Proofs.YtokcmaehojljdaaDoor

/- hash.Of: the digest of a text: its walk. -/
namespace Go.Proofs.YtokcmaehojljdaaDoor
open Go.RowKit Go.Proofs.YtokcmaehojljdaaDoorW.PrintWords Go.Proofs.YtokcmaehojljdaaDoorW.PrintLast Go.Proofs.YtokcmaehojljdaaDoorW.PrintMore
open Cc (g)

def hexT : ByteArray := ⟨#[48, 49, 50, 51, 52, 53, 54, 55, 56, 57, 97, 98, 99, 100, 101, 102]⟩
/-- Which digit a sign is; -1: none. -/
def hexI (x : Nat) : Int := Lib.indexByte hexT.data.toList x.toUInt8
theorem hexI_fin : ∀ n : Fin 256, -1 ≤ Lib.indexByte hexT.data.toList (UInt8.ofNat n.val) ∧ Lib.indexByte hexT.data.toList (UInt8.ofNat n.val) ≤ 15 := by decide +kernel
theorem hexI_range (x : Nat) : -1 ≤ hexI x ∧ hexI x ≤ 15 := by
  have h := hexI_fin ⟨x % 256, Nat.mod_lt _ (by decide)⟩
  have e : (UInt8.ofNat (x % 256)) = x.toUInt8 := by
    apply UInt8.toNat_inj.1
    simp
  rw [e] at h
  exact h
theorem or16 : ∀ a b : Fin 16, Go.bits .or .i64 ((a.val : Int) * 16) (b.val : Int) = ((16 * a.val + b.val : Nat) : Int) := by decide +kernel
/-- The digit pair at a place, and whether it is one. -/
def goodB (L : List Nat) (j : Nat) : Bool := decide (0 ≤ hexI (g L (2 * j))) && decide (0 ≤ hexI (g L (2 * j + 1)))
def dgU (L : List Nat) (j : Nat) : UInt8 := UInt8.ofNat (16 * (hexI (g L (2 * j))).toNat + (hexI (g L (2 * j + 1))).toNat)
def dgs (L : List Nat) (i : Nat) : List UInt8 := (List.range i).map (dgU L) ++ List.replicate (32 - i) 0
def ofOk (s : ByteArray) : Bool := (s.size == 64) && (List.range 32).all (goodB (bytes s))
def ofD (s : ByteArray) : List UInt8 := if ofOk s = true then dgs (bytes s) 32 else List.replicate 32 0
theorem dgs_len (L : List Nat) (i : Nat) (h : i ≤ 32) : (dgs L i).length = 32 := by simp [dgs]; omega
theorem dgs_set (L : List Nat) (i : Nat) (h : i < 32) : (dgs L i).set i (dgU L i) = dgs L (i + 1) := by
  obtain ⟨m, hm⟩ : ∃ m, 32 - i = m + 1 := ⟨32 - i - 1, by omega⟩
  unfold dgs
  rw [hm, List.replicate_succ, List.set_append_right _ _ (by simp), List.range_succ, List.map_append]
  have : 32 - (i + 1) = m := by omega
  rw [this]
  simp
theorem byteRow_set {w : World} {b t : Nat} {X : List UInt8} (h : Row w b t (Lib.byteCells X).toArray) (i : Nat) (u : UInt8) : Row (w.setCell ⟨b, i, none⟩ (.int .u8 (u.toNat : Int))) b t (Lib.byteCells (X.set i u)).toArray := by
  have := h.put i (.int .u8 (u.toNat : Int))
  have e : (Lib.byteCells X).toArray.setIfInBounds i (.int .u8 (u.toNat : Int)) = (Lib.byteCells (X.set i u)).toArray := by
    simp [Lib.byteCells, List.map_set]
  rwa [e] at this
theorem byteRow_cell {w : World} {b t : Nat} {X : List UInt8} (h : Row w b t (Lib.byteCells X).toArray) (i : Nat) (hi : i < X.length) : ∃ x, w.cell? ⟨b, i, none⟩ = some (.int .u8 x) := by
  refine ⟨((X[i]'hi).toNat : Int), (h.at_ i).trans ?_⟩
  simp [Lib.byteCells, List.getElem?_eq_getElem hi]
theorem byteCells_all (l : List UInt8) : (Lib.byteCells l).toArray.all (·.oneCell') = true := by
  simp only [Lib.byteCells, List.all_toArray, List.all_eq_true, List.mem_map]
  rintro v ⟨x, _, rfl⟩
  rfl
theorem i26 (X : List UInt8) (h : X.length = 32) : (Tryd.prog.info? 26).map (·.size) = some (Lib.byteCells X).toArray.size := by
  rw [List.size_toArray, Lib.byteCells_length, h]; kernel_rfl
set_option maxHeartbeats 4000000 in
set_option maxRecDepth 100000 in
theorem of_any (s : ByteArray) (w : World) : Calls Tryd.prog 42 #[.string s] w fun e w' => e = .returned (.tuple #[.agg (Lib.byteCells (ofD s)).toArray, .bool (ofOk s)]) ∧ Below w.heap.size w w' := by
  have HI := Sec.mk (fun (c : Int) w => Tryd.strings_IndexByte hexT c w)
  have hb0 := ((Below.refl w.heap.size w).alloc (Nat.le_refl _) (.cells (Array.replicate 32 (.int .u8 0)) 26)).alloc (by simp) (.cells (Array.replicate 32 (.int .u8 0)) 26)
  have hR : Row ((w.alloc (.cells (Array.replicate 32 (.int .u8 0)) 26)).alloc (.cells (Array.replicate 32 (.int .u8 0)) 26)) w.heap.size 26 (Lib.byteCells (List.replicate 32 0)).toArray := (Row.new w _ 26).alloc _
  have hD : Row ((w.alloc (.cells (Array.replicate 32 (.int .u8 0)) 26)).alloc (.cells (Array.replicate 32 (.int .u8 0)) 26)) (w.heap.size + 1) 26 (Lib.byteCells (dgs (bytes s) 0)).toArray := Row.new1 w _ _ 26
  have hno : ∀ (W : World) (tm : Array Value), Row W w.heap.size 26 (Lib.byteCells (List.replicate 32 0)).toArray → Below w.heap.size w W → ofOk s = false → tm.getD 2 undef = .pointer (some ⟨w.heap.size, 0, none⟩) → tm.getD 3 undef = .bool false →
      (results Tryd.f42 tm).run Tryd.prog W = .ok (.tuple #[.agg (Lib.byteCells (ofD s)).toArray, .bool (ofOk s)]) W := by
    intro W tm hr _ hk h2 h3
    have e9 : ofD s = List.replicate 32 0 := by rw [ofD, hk]; rfl
    rw [e9, hk]
    rw [results_cell_tmp rfl, h2, h3]
    have hl := run_load_list (P := Tryd.prog) W w.heap.size 0 26 26 (Lib.byteCells (List.replicate 32 0)) (Lib.byteCells (List.replicate 32 0)) _ hr (fun j v hv => by rw [Nat.zero_add]; exact hv) Tryd.underlying26 rfl (by kernel_rfl)
    simp [asAddr, hl]
  go_enter Tryd.func42, Tryd.ntmps42
  go_upto_region 2 with (fail)
  refine wp_abs (fun W HW => ?_)
  have HW' : W = (w.alloc (.cells (Array.replicate 32 (.int .u8 0)) 26)).alloc (.cells (Array.replicate 32 (.int .u8 0)) 26) := HW.out
  rw [← HW'] at hb0 hR hD
  clear HW HW'
  by_cases h64 : s.size = 64
  · have c1 : (s.size : Int) = 64 := by omega
    have hL : (bytes s).length = 64 := by rw [bytes_len, h64]
    have hsl : s.data.toList.map UInt8.toNat = bytes s := rfl
    go_wp2_with fail
    go_loopw [12] (fun v12 wr => ∃ i : Nat, i ≤ 32 ∧ v12 = .int .i64 i ∧ Below w.heap.size w wr ∧ Row wr w.heap.size 26 (Lib.byteCells (List.replicate 32 0)).toArray ∧ Row wr (w.heap.size + 1) 26 (Lib.byteCells (dgs (bytes s) i)).toArray ∧ ∀ j, j < i → goodB (bytes s) j = true) (fun v12 _ => 32 - (intOf v12).toNat)
    case atStart => exact ⟨0, by omega, rfl, hb0, hR, hD, fun j hj => absurd hj (Nat.not_lt_zero _)⟩
    case round =>
      clear hb0 hR hD
      obtain ⟨i, hi, rfl, hb, hR, hD, hgood⟩ := hrel
      by_cases hlt : i < 32
      · have hd : decide ((i : Int) < 32) = true := decide_eq_true (by omega)
        have f0 := fun w => run_index_text Tryd.underlying9 s (bytes s) hsl (2 * (i : Int)) (2 * i) (by omega) (by omega) w
        have f1 := fun w => run_index_text Tryd.underlying9 s (bytes s) hsl (2 * (i : Int) + 1) (2 * i + 1) (by omega) (by omega) w
        have ga : goodB (bytes s) i = (decide (0 ≤ hexI (g (bytes s) (2 * i))) && decide (0 ≤ hexI (g (bytes s) (2 * i + 1)))) := rfl
        have gd : dgU (bytes s) i = UInt8.ofNat (16 * (hexI (g (bytes s) (2 * i))).toNat + (hexI (g (bytes s) (2 * i + 1))).toNat) := rfl
        obtain ⟨ra0, ra1⟩ := hexI_range (g (bytes s) (2 * i))
        obtain ⟨rb0, rb1⟩ := hexI_range (g (bytes s) (2 * i + 1))
        have HA := Sec.mk (fun w => HI.out (g (bytes s) (2 * i) : Nat) w)
        have HB := Sec.mk (fun w => HI.out (g (bytes s) (2 * i + 1) : Nat) w)
        have ha : Lib.indexByte hexT.data.toList ((g (bytes s) (2 * i) : Nat) : Int).toNat.toUInt8 = hexI (g (bytes s) (2 * i)) := rfl
        have hb' : Lib.indexByte hexT.data.toList ((g (bytes s) (2 * i + 1) : Nat) : Int).toNat.toUInt8 = hexI (g (bytes s) (2 * i + 1)) := rfl
        rw [ha] at HA
        rw [hb'] at HB
        clear ha hb'
        have hset := dgs_set (bytes s) i hlt
        obtain ⟨x, hcell⟩ := byteRow_cell hD i (by rw [dgs_len _ _ hi]; exact hlt)
        have hfree := hD.free i
        generalize hexI (g (bytes s) (2 * i)) = a at *
        generalize hexI (g (bytes s) (2 * i + 1)) = b at *
        go_wp2_with fail
        go_quiet ((first | (go_at_call 62; exact Calls.quiet_of_same (HA.out _)) | (go_at_call 62; exact Calls.quiet_of_same (HB.out _))))
        by_cases h0 : 0 ≤ a ∧ 0 ≤ b
        · have d1 : ¬ (a < 0) := by omega
          have d2 : ¬ (b < 0) := by omega
          go_wp2_with fail
          have ev : bits .or .i64 (a * 16) b % 256 = ((dgU (bytes s) i).toNat : Int) := by
            obtain ⟨m, rfl⟩ := Int.eq_ofNat_of_zero_le h0.1
            obtain ⟨n, rfl⟩ := Int.eq_ofNat_of_zero_le h0.2
            have := or16 ⟨m, by omega⟩ ⟨n, by omega⟩
            simp only [] at this
            rw [this, gd, Int.toNat_natCast, Int.toNat_natCast]
            simp
          have hDs := byteRow_set (hD.drewN nq) i (dgU (bytes s) i)
          rw [hset, ← ev] at hDs
          have hg' : goodB (bytes s) i = true := by rw [ga, decide_eq_true h0.1, decide_eq_true h0.2]; rfl
          refine ⟨⟨i + 1, by omega, by go_num, (below_drewN' hb nq).setCell (by show w.heap.size ≤ w.heap.size + 1; omega) _, (hR.drewN nq).aside (by show w.heap.size ≠ w.heap.size + 1; omega) _, hDs, fun j hj => ?_⟩, by simp [intOf]; omega⟩
          by_cases hji : j = i
          · rw [hji]; exact hg'
          · exact hgood j (by omega)
        · have hbad : ofOk s = false := by
            unfold ofOk
            rw [Bool.and_eq_false_iff]
            refine .inr ?_
            rw [List.all_eq_false]
            refine ⟨i, List.mem_range.2 hlt, ?_⟩
            rw [ga]
            intro e
            rw [Bool.and_eq_true, decide_eq_true_eq, decide_eq_true_eq] at e
            exact h0 e
          have hb9 := below_row (below_drewN' hb nq) (Nat.le_refl _) (Lib.byteCells (List.replicate 32 0)).toArray
          have hRd := hR.drewN nq
          by_cases d1 : a < 0
          · go_wp2_with (refine wpList_store_row rfl 26 (.tmp 2) (.tmp 32) rfl w.heap.size (Lib.byteCells (List.replicate 32 0)).toArray rfl rfl 26 _ hRd (i26 _ (by simp)) rfl (byteCells_all _) ?_)
            exact bodyPost_ret (hno _ _ hRd.row hb9 hbad rfl rfl) rfl ⟨by rw [hbad], hb9⟩
          · have d2 : b < 0 := by omega
            go_wp2_with (refine wpList_store_row rfl 26 (.tmp 2) (.tmp 32) rfl w.heap.size (Lib.byteCells (List.replicate 32 0)).toArray rfl rfl 26 _ hRd (i26 _ (by simp)) rfl (byteCells_all _) ?_)
            exact bodyPost_ret (hno _ _ hRd.row hb9 hbad rfl rfl) rfl ⟨by rw [hbad], hb9⟩
      · have hd : decide ((i : Int) < 32) = false := decide_eq_false (by omega)
        obtain rfl : i = 32 := by omega
        have hok : ofOk s = true := by
          unfold ofOk
          rw [beq_iff_eq.2 h64, Bool.true_and, List.all_eq_true]
          exact fun j hj => hgood j (List.mem_range.1 hj)
        have hl := dgs_len (bytes s) 32 (by omega)
        have hE := run_load_list (P := Tryd.prog) wr (w.heap.size + 1) 0 26 26 (Lib.byteCells (dgs (bytes s) 32)) (Lib.byteCells (dgs (bytes s) 32)) _ hD (fun j v hv => by rw [Nat.zero_add]; exact hv) Tryd.underlying26 rfl (by rw [Lib.byteCells_length, hl]; kernel_rfl)
        go_wp2_with (first | refine wpList_load_list rfl 26 (.tmp 4) rfl (w.heap.size + 1) 0 rfl _ hE ?_ | refine wpList_store_row rfl 26 (.tmp 2) (.tmp 41) rfl w.heap.size (Lib.byteCells (dgs (bytes s) 32)).toArray rfl rfl 26 _ hR (i26 _ hl) (by simp [Lib.byteCells_length, hl]) (byteCells_all _) ?_)
        have hb9 := below_row hb (Nat.le_refl _) (Lib.byteCells (dgs (bytes s) 32)).toArray
        have e9 : ofD s = dgs (bytes s) 32 := by rw [ofD, if_pos hok]
        refine bodyPost_ret (v := .tuple #[.agg (Lib.byteCells (dgs (bytes s) 32)).toArray, .bool true]) ?_ rfl ⟨by rw [e9, hok], hb9⟩
        rw [results_cell_tmp rfl]
        have hl2 := run_load_list (P := Tryd.prog) _ w.heap.size 0 26 26 (Lib.byteCells (dgs (bytes s) 32)) (Lib.byteCells (dgs (bytes s) 32)) _ (hR.row (C := (Lib.byteCells (dgs (bytes s) 32)).toArray)) (fun j v hv => by rw [Nat.zero_add]; exact hv) Tryd.underlying26 rfl (by rw [Lib.byteCells_length, hl]; kernel_rfl)
        simp [asAddr, hl2]
  · have c1 : ¬ (s.size : Int) = 64 := by omega
    have hk : ofOk s = false := by unfold ofOk; rw [beq_eq_false_iff_ne.2 h64, Bool.false_and]
    go_wp2_with (refine wpList_store_row rfl 26 (.tmp 2) (.tmp 11) rfl w.heap.size (Lib.byteCells (List.replicate 32 0)).toArray rfl rfl 26 _ hR (i26 _ (by simp)) rfl (byteCells_all _) ?_)
    exact bodyPost_ret (hno _ _ hR.row (below_row hb0 (Nat.le_refl _) _) hk rfl rfl) rfl ⟨by rw [hk], below_row hb0 (Nat.le_refl _) _⟩
end Go.Proofs.YtokcmaehojljdaaDoor

/- The reference's Hex: a digest's text: its walk. -/
namespace Go.Proofs.YtokcmaehojljdaaDoor
open Go.RowKit Go.Proofs.YtokcmaehojljdaaDoorW.PrintWords Go.Proofs.YtokcmaehojljdaaDoorW.PrintLast Go.Proofs.YtokcmaehojljdaaDoorW.PrintMore
open Cc (g)

/-- The two signs of a byte. -/
def hx2 (u : UInt8) : List UInt8 := [hexT.data.toList.getD (u.toNat / 16) 0, hexT.data.toList.getD (u.toNat % 16) 0]
def hexS (X : List UInt8) : ByteArray := ⟨(X.flatMap hx2).toArray⟩
theorem hex_ext : ∀ n : Fin 16, hexT.extract n.val (n.val + 1) = ⟨#[hexT.data.toList.getD n.val 0]⟩ := by decide +kernel
theorem hexS_len (X : List UInt8) : (hexS X).size = 2 * X.length := by
  show ((X.flatMap hx2).toArray).size = _
  induction X with
  | nil => rfl
  | cons u X ih =>
    rw [List.size_toArray] at *
    rw [List.flatMap_cons, List.length_append, ih, List.length_cons]
    have : (hx2 u).length = 2 := rfl
    omega
theorem hexS_next (X : List UInt8) (i : Nat) (u : UInt8) (h : X[i]? = some u) : hexS (X.take (i + 1)) = hexS (X.take i) ++ hexT.extract (u.toNat / 16) (u.toNat / 16 + 1) ++ hexT.extract (u.toNat % 16) (u.toNat % 16 + 1) := by
  have hu := u.toNat_lt
  have e1 := hex_ext ⟨u.toNat / 16, by omega⟩
  have e2 := hex_ext ⟨u.toNat % 16, by omega⟩
  simp only [] at e1 e2
  rw [e1, e2]
  have : X.take (i + 1) = X.take i ++ [u] := by rw [List.take_add_one, h]; rfl
  rw [this]
  apply ByteArray.ext
  simp [hexS, hx2, ByteArray.data_append]
set_option maxHeartbeats 4000000 in
set_option maxRecDepth 100000 in
theorem rhex_any (X : List UInt8) (hX : X.length = 32) (w : World) : Calls Tryd.prog 60 #[.agg (Lib.byteCells X).toArray] w fun e w' => e = .returned (.string (hexS X)) ∧ Below w.heap.size w w' := by
  have hR := Row.new w (Lib.byteCells X).toArray 26
  have hb0 := (Below.refl w.heap.size w).alloc (Nat.le_refl _) (.cells (Lib.byteCells X).toArray 26)
  go_enter Tryd.func60, Tryd.ntmps60
  go_upto_region 1 with (fail)
  refine wp_abs (fun W HW => ?_)
  rw [← HW.out] at hR hb0
  clear HW
  go_wp2_with fail
  go_loopw [4, 5] (fun v4 v5 wr => ∃ i : Nat, i ≤ 32 ∧ v4 = .string (hexS (X.take i)) ∧ v5 = .int .i64 i ∧ Row wr w.heap.size 26 (Lib.byteCells X).toArray ∧ Below w.heap.size w wr) (fun _ v5 _ => 32 - (intOf v5).toNat)
  case atStart => exact ⟨0, by omega, rfl, rfl, hR, hb0⟩
  case round =>
    clear hR hb0
    obtain ⟨i, hi, rfl, rfl, hR, hb⟩ := hrel
    by_cases hlt : i < 32
    · have hd : decide ((i : Int) < 32) = true := decide_eq_true (by omega)
      obtain ⟨u, hu⟩ : ∃ u, X[i]? = some u := ⟨X[i]'(by omega), List.getElem?_eq_getElem (by omega)⟩
      have hul := u.toNat_lt
      have hcell : ∀ w', Row w' w.heap.size 26 (Lib.byteCells X).toArray → w'.cell? ⟨w.heap.size, i, none⟩ = some (.int .u8 (u.toNat : Int)) := fun w' h => (h.at_ i).trans (by simp [Lib.byteCells, hu])
      have hc0 := hcell _ hR
      have hnx := hexS_next X i u hu
      obtain ⟨s, hsx⟩ : ∃ s, s = hexS (X.take i) := ⟨_, rfl⟩
      rw [← hsx] at hnx ⊢
      have hsz : s.size ≤ 64 := by
        have := hexS_len (X.take i)
        rw [hsx, this, List.length_take]
        omega
      have HNX := Sec.mk hnx
      clear hnx hcell hsx
      obtain ⟨x, hx⟩ : ∃ x, x = u.toNat := ⟨_, rfl⟩
      rw [← hx] at hul hc0 HNX
      clear hx
      have p1 : (0 ≤ (i : Int)) = True := eq_true (by omega)
      have q1 : ((i : Int) < 32) = True := eq_true (by omega)
      have t1 : Int.tdiv (x : Int) 16 = ((x / 16 : Nat) : Int) := by rw [Int.tdiv_eq_ediv_of_nonneg (by omega)]; rfl
      have t2 : Int.tmod (x : Int) 16 = ((x % 16 : Nat) : Int) := by rw [Int.tmod_eq_emod_of_nonneg (by omega)]; rfl
      have hal : Tryd.prog.arrayLen 26 = 32 := by kernel_rfl
      have b1 : x / 16 < 16 := by omega
      have b2 : x % 16 < 16 := Nat.mod_lt _ (by decide)
      generalize x / 16 = a at *
      generalize x % 16 = b at *
      have k1 : IntKind.u8.wrap (a : Int) = a := by unfold IntKind.wrap; simp [IntKind.bits, IntKind.signed]; omega
      have k2 : IntKind.u8.wrap (b : Int) = b := by unfold IntKind.wrap; simp [IntKind.bits, IntKind.signed]; omega
      have u1 : IntKind.u8.wrap ((a : Int) + 1) = ((a + 1 : Nat) : Int) := by unfold IntKind.wrap; simp [IntKind.bits, IntKind.signed]; omega
      have u2 : IntKind.u8.wrap ((b : Int) + 1) = ((b + 1 : Nat) : Int) := by unfold IntKind.wrap; simp [IntKind.bits, IntKind.signed]; omega
      have r1 : (0 ≤ (a : Int)) = True := eq_true (by omega)
      have r2 : (0 ≤ (b : Int)) = True := eq_true (by omega)
      have r3 : ((a : Int) ≤ (a : Int) + 1) = True := eq_true (by omega)
      have r4 : ((b : Int) ≤ (b : Int) + 1) = True := eq_true (by omega)
      have r5 : ((a : Int) + 1 ≤ 16) = True := eq_true (by omega)
      have r6 : ((b : Int) + 1 ≤ 16) = True := eq_true (by omega)
      have r7 : (0 ≤ (a : Int) + 1) = True := eq_true (by omega)
      have r8 : (0 ≤ (b : Int) + 1) = True := eq_true (by omega)
      obtain ⟨A, hA⟩ : ∃ A, A = hexT.extract a (a + 1) := ⟨_, rfl⟩
      obtain ⟨B, hB⟩ : ∃ B, B = hexT.extract b (b + 1) := ⟨_, rfl⟩
      have sA : A.size = 1 := by rw [hA, hex_ext ⟨a, b1⟩]; rfl
      have sB : B.size = 1 := by rw [hB, hex_ext ⟨b, b2⟩]; rfl
      rw [← hA, ← hB] at HNX
      have x1 : (⟨#[48, 49, 50, 51, 52, 53, 54, 55, 56, 57, 97, 98, 99, 100, 101, 102]⟩ : ByteArray).extract a (a + 1) = A := hA.symm
      have x2 : (⟨#[48, 49, 50, 51, 52, 53, 54, 55, 56, 57, 97, 98, 99, 100, 101, 102]⟩ : ByteArray).extract b (b + 1) = B := hB.symm
      clear hA hB
      have y1 : s.size + A.size ≤ 65 := by omega
      have y2 : (s ++ A).size + B.size ≤ 66 := by rw [ByteArray.size_append]; omega
      go_wp2_with fail
      go_quiet (fail)
      go_wp2_with fail
      go_roundw
      case rel => exact ⟨i + 1, by omega, by rw [HNX.out], by go_num, hR.drewN nq, below_drewN' hb nq⟩
      case measure => simp [intOf]; omega
    · have hd : decide ((i : Int) < 32) = false := decide_eq_false (by omega)
      obtain rfl : i = 32 := by omega
      rw [List.take_of_length_le (by omega)]
      go_wp2_with fail
      go_ret
      exact ⟨rfl, hb⟩
end Go.Proofs.YtokcmaehojljdaaDoor
