/- Bytes, ticks, rates and stamps as numbers: what the program's and the reference's functions answer. -/
import Derived.Test.YtipdmihaidpnpaaPx10
import Derived.Test.YtipdmihaidpnpaaPx9
import Derived.Test.YtipdmihaidpnpaaMd
import Derived.KernelRfl
namespace Go.Proofs.Ytipdmihaidpnpaa.P
open Go.RowKit
set_option linter.unusedVariables false
set_option linter.unusedSimpArgs false
theorem bytes_eq {a b : Int} (ha : isI64 a) (hb : isI64 b) : units_Bytes.f a b = some (md a b 8000000 1) := by
  unfold units_Bytes.f units_rate_bytes.f
  rw [do_eq 1 ha hb (isI64_mk (by decide) (by decide))]; rfl
theorem ticks_eq {a b : Int} (ha : isI64 a) (hb : isI64 b) : units_Ticks.f a b = some (md b 8000000 a 3) := by
  unfold units_Ticks.f units_rate_ticks.f
  rw [do_eq 3 hb (isI64_mk (by decide) (by decide)) ha]; rfl
theorem rate_eq {a b : Int} (ha : isI64 a) (hb : isI64 b) : units_Rate.f a b = some (md a 8000000 b 1) := by
  unfold units_Rate.f
  rw [do_eq 1 ha (isI64_mk (by decide) (by decide)) hb]; rfl
theorem stamped_eq {a : Int} (ha : isI64 a) : units_stamped.f a = some (md a 65536 1000000 1) := by
  unfold units_stamped.f
  rw [do_eq 1 ha (isI64_mk (by decide) (by decide)) (isI64_mk (by decide) (by decide))]; rfl
theorem rdo_eq {a b c : Int} (how : Int) (ha : isI64 a) (hb : isI64 b) (hc : isI64 c) : flywheelref02_Do.f a b c how = some (md a b c how) := by
  unfold flywheelref02_Do.f flywheelref02_Did_s.f
  rw [if_pos ⟨ha, hb, hc⟩]; rfl
theorem rbytes_eq {a b : Int} (ha : isI64 a) (hb : isI64 b) : flywheelref04_Bytes.f a b = some (md a b 8000000 1) := by
  unfold flywheelref04_Bytes.f
  rw [rdo_eq 1 ha hb (isI64_mk (by decide) (by decide))]; rfl
theorem rticks_eq {a b : Int} (ha : isI64 a) (hb : isI64 b) : flywheelref04_Ticks.f a b = some (md b 8000000 a 3) := by
  unfold flywheelref04_Ticks.f
  rw [rdo_eq 3 hb (isI64_mk (by decide) (by decide)) ha]; rfl
theorem rrate_eq {a b : Int} (ha : isI64 a) (hb : isI64 b) : flywheelref04_Rate.f a b = some (md a 8000000 b 1) := by
  unfold flywheelref04_Rate.f
  rw [rdo_eq 1 ha (isI64_mk (by decide) (by decide)) hb]; rfl
theorem wakes04 : flywheellaw04_wakes.f = some true := by kernel_rfl
/-- Up to the next whole number. -/
theorem ceil_span (N d : Int) (hd : 0 < d) : N ≤ -((-N) / d) * d ∧ (-((-N) / d) - 1) * d < N := by
  have m := Int.emod_add_mul_ediv (-N) d
  have m0 := Int.emod_nonneg (-N) (show d ≠ 0 by omega)
  have m1 := Int.emod_lt_of_pos (-N) hd
  rw [Int.mul_comm d _] at m
  rw [Int.sub_mul, Int.neg_mul]
  omega
end Go.Proofs.Ytipdmihaidpnpaa.P
