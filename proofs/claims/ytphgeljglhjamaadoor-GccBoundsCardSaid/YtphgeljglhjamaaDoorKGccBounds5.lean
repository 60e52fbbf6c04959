-- PUT TOGETHER by a program of this session: of the claim's texts, what is used
import Derived.Test.YtphgeljglhjamaaDoorKGccBounds3
import Derived.Test.YtphgeljglhjamaaDoorKGccBounds4
import Derived.MapKept
import Derived.ChangeMaps4
import Derived.Below
import Derived.Carry
section
namespace Go.Proofs.YtphgeljglhjamaaDoor.P
open Go.RowKit Go.MapKept Go.ChangeMaps Go.Proofs.YtphgeljglhjamaaDoorW.PrintWords Go.Proofs.YtphgeljglhjamaaDoorW.PrintLast
set_option linter.unusedVariables false
def mkmap.f : Option Int := some 0
theorem named_ {P : Program} {Q : Exit → Act → World → Prop} {a : Act} {W : World} {c : Code} (h : ∀ W_, W_ = W → c.wp P Q a W_) : c.wp P Q a W := h W rfl
def fnv (f : Nat) : Value := .func (.func f) #[] #[]
structure FMap (W w : World) (m : Nat) (l : List (Int × Nat)) : Prop where
  bel : Below W.heap.size W w
  mem : W.heap.size ≤ m
  blk : ∃ es c, w.heap[m]? = some (.map es c) ∧ es.toList.map (fun e => (e.key, e.val)) = l.map (fun p => (Value.int .i64 p.1, fnv p.2))
theorem FMap.made {W w : World} (h : Below W.heap.size W w) : FMap W (w.alloc (.map #[] 0)) w.heap.size [] :=
  ⟨h.alloc h.size _, h.size, #[], 0, heap_alloc_new w _, rfl⟩
theorem find_new (k : Int) : ∀ (es : List MapEntry) (l : List (Int × Nat)) (i : Nat), es.map (fun e => (e.key, e.val)) = l.map (fun p => (Value.int .i64 p.1, fnv p.2)) → (∀ p ∈ l, k ≠ p.1) →
    Instr.findNow (.int .i64) (.int .i64 k) es i = some none
  | [], _, _, _, _ => rfl
  | e :: es, [], _, h, _ => by simp at h
  | e :: es, p :: l, i, h, hn => by
    simp only [List.map_cons, List.cons.injEq, Prod.mk.injEq] at h
    have hk : (k == p.1) = false := by simpa using hn p (by simp)
    simp only [Instr.findNow, h.1.1, Instr.sameNow, if_true, hk]
    exact find_new k es l (i + 1) h.2 (fun q hq => hn q (by simp [hq]))
theorem find_old (k : Int) (f : Nat) : ∀ (es : List MapEntry) (l : List (Int × Nat)) (i : Nat), es.map (fun e => (e.key, e.val)) = l.map (fun p => (Value.int .i64 p.1, fnv p.2)) → l.find? (fun p => k == p.1) = some (k, f) →
    ∃ j, Instr.findNow (.int .i64) (.int .i64 k) es i = some (some (j, fnv f))
  | [], [], _, _, h => by simp at h
  | [], _ :: _, _, h, _ => by simp at h
  | e :: es, [], _, h, _ => by simp at h
  | e :: es, p :: l, i, h, hf => by
    simp only [List.map_cons, List.cons.injEq, Prod.mk.injEq] at h
    simp only [List.find?_cons] at hf
    simp only [Instr.findNow, h.1.1, Instr.sameNow, if_true]
    cases hk : k == p.1 with
    | true =>
      rw [hk] at hf
      simp only [Option.some.injEq] at hf
      exact ⟨i, by simp [h.1.2, hf]⟩
    | false =>
      rw [hk] at hf
      exact find_old k f es l (i + 1) h.2 hf
theorem FMap.ins {P : Program} {t kt et : TypeId} (hu : P.underlying t = some (.map kt et)) (hk : P.underlying kt = some (.int .i64)) {W w : World} {m : Nat} {l : List (Int × Nat)} (h : FMap W w m l) (k : Int) (f : Nat) (hn : ∀ p ∈ l, k ≠ p.1) :
    ∃ w1, (Instr.mapUpdate t (.map (some m)) (.int .i64 k) (fnv f)).run P w = .ok () w1 ∧ FMap W w1 m (l ++ [(k, f)]) := by
  obtain ⟨hb, hm, es, c, hh, hl⟩ := h
  refine ⟨setBlock w m (.map (es.push { key := .int .i64 k, val := fnv f, born := c }) (c + 1)), ?_, ⟨hb.os, hb.tape, hb.output, ?_, ?_⟩, hm, _, _, (heap_set hh).1, ?_⟩
  · simp [Instr.mapUpdate, run_underlying hu, MapKept.run_getObj_map hh, run_checkKey hk (show IsKey (.int .i64) (.int .i64 k) from by simp [IsKey]), run_findKey hk (find_new k _ l 0 hl hn), MapKept.run_setObj_map _ hh, Result.andThen, setBlock]
  · have : (setBlock w m (.map (es.push { key := .int .i64 k, val := fnv f, born := c }) (c + 1))).heap.size = w.heap.size := by simp [setBlock]
    rw [this]
    exact hb.size
  · intro j hj
    rw [← hb.block j hj]
    exact (heap_set hh).2 j (by omega)
  · simp [hl]
theorem FMap.look {P : Program} {t kt et : TypeId} (hu : P.underlying t = some (.map kt et)) (hk : P.underlying kt = some (.int .i64)) {W w : World} {m : Nat} {l : List (Int × Nat)} (h : FMap W w m l) (k : Int) (f : Nat) (hf : l.find? (fun p => k == p.1) = some (k, f)) :
    (Instr.lookup t (.map (some m)) (.int .i64 k) false).run P w = .ok (fnv f) w := by
  obtain ⟨hb, hm, es, c, hh, hl⟩ := h
  obtain ⟨j, hj⟩ := find_old k f _ l 0 hl hf
  simp [Instr.lookup, run_underlying hu, MapKept.run_getObj_map hh, run_checkKey hk (show IsKey (.int .i64) (.int .i64 k) from by simp [IsKey]), run_findKey hk hj, Result.andThen]
theorem ins_skip {P : Program} {ρ : Operand → Value} {o : Oper} {t : TypeId} {m k x : Operand} (ho : o.op = .insert t m k x) {w w1 : World} (h : (Instr.mapUpdate t (ρ m) (ρ k) (ρ x)).run P w = .ok () w1) : (execOp ρ o).run P w = .ok .skip w1 := by
  unfold execOp
  simp only [ho]
  simp [h, Result.andThen]
theorem look_val {P : Program} {ρ : Operand → Value} {o : Oper} {t : TypeId} {m k : Operand} {b : Bool} (ho : o.op = .lookup t m k b) {w w1 : World} {v : Value} (h : (Instr.lookup t (ρ m) (ρ k) b).run P w = .ok v w1) : (execOp ρ o).run P w = .ok (.value v) w1 := by
  unfold execOp
  simp only [ho]
  simp [h, Result.andThen]
end Go.Proofs.YtphgeljglhjamaaDoor.P
end
