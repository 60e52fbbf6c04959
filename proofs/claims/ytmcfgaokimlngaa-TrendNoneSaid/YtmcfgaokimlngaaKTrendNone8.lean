-- PUT TOGETHER by a program of this session: of the claim's texts, what is used
import Derived.Laws.ComplexArith
import Derived.Laws.FloatBits
section
namespace Go.Proofs.Ytmcfgaokimlngaa.FInt
open Ieee
set_option linter.unusedVariables false
set_option linter.unusedSimpArgs false
theorem run_cadd {P : Program} {a b c d : Nat} (h : (cSumBits .add .f64 a b c d).isSome = true) (t : TypeId) (W : World) :
    (Go.binOp .add t (.complex .f64 a b) (.complex .f64 c d)).run P W = .ok (.complex .f64 ((cSumBits .add .f64 a b c d).getD (0, 0)).1 ((cSumBits .add .f64 a b c d).getD (0, 0)).2) W := by
  obtain ⟨⟨re, im⟩, e⟩ := Option.isSome_iff_exists.1 h
  rw [e]
  exact run_complex_sum W .add (.inl rfl) t .f64 a b c d re im e
theorem run_f2i {P : Program} {src dst : TypeId} {b : Nat} {k : IntKind} (hs : (P.underlying src).isSome = true) (hd : P.underlying dst = some (.int k)) (h : (floatToIntVal .f64 b k).isSome = true) (W : World) :
    (Go.convert src dst (.float .f64 b)).run P W = .ok (.int k ((floatToIntVal .f64 b k).getD 0)) W := by
  obtain ⟨n, e⟩ := Option.isSome_iff_exists.1 h
  rw [e]
  exact run_convert_float_int W src dst .f64 k b n hs hd e
end Go.Proofs.Ytmcfgaokimlngaa.FInt
end
