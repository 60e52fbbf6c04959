/- The stamp of any time, and the time of any stamp near any other, are those of the document. -/
import Derived.Test.YtipdmihaidpnpaaPx9
import Derived.Test.YtipdmihaidpnpaaUnits
import Derived.Laws.Bits128
namespace Go.Proofs.Ytipdmihaidpnpaa.Pure
open Go.RowKit Go.Proofs.Ytipdmihaidpnpaa.P Go.Proofs.YtipdmihaidpnpaaW.PrintWords Go.Proofs.YtipdmihaidpnpaaW.PrintMore
theorem i64_and_low32 (n : Int) : Go.bits .and .i64 n 4294967295 = n % 4294967296 := by
  have h : (BitVec.ofInt 64 4294967295).toNat = 2 ^ 32 - 1 := by decide
  have key : (BitVec.ofInt 64 n &&& BitVec.ofInt 64 4294967295).toNat = (n % ((2 ^ 64 : Nat) : Int)).toNat % 2 ^ 32 := by
    rw [BitVec.toNat_and, BitVec.toNat_ofInt, h, Nat.and_two_pow_sub_one_eq_mod]
  show IntKind.i64.wrap ((BitVec.ofInt 64 n &&& BitVec.ofInt 64 4294967295).toNat : Nat) = n % 4294967296
  rw [key, IntKind.wrap_i64]
  omega
theorem tmod_near (n s : Int) (h0 : 0 ≤ s) (h1 : s ≤ 4294967295) :
    Int.tmod (wrap64 (Int.tmod (wrap64 (Int.tmod s 4294967296 - Int.tmod n 4294967296)) 4294967296 + 4294967296)) 4294967296 = (s - n) % 4294967296 := by
  have t1 := Int.tmod_lt_of_pos n (show (0 : Int) < 4294967296 by decide)
  have t2 := Int.tmod_lt_of_pos (-n) (show (0 : Int) < 4294967296 by decide)
  rw [Int.neg_tmod] at t2
  have es : Int.tmod s 4294967296 = s := Int.tmod_eq_of_lt h0 (by omega)
  rw [es]
  have en : (Int.tmod n 4294967296) % 4294967296 = n % 4294967296 := by
    rw [Int.tmod_eq_emod]; split <;> omega
  generalize Int.tmod n 4294967296 = r at *
  have w1 : wrap64 (s - r) = s - r := by unfold wrap64; omega
  rw [w1]
  have d1 := Int.tmod_lt_of_pos (s - r) (show (0 : Int) < 4294967296 by decide)
  have d2 := Int.tmod_lt_of_pos (-(s - r)) (show (0 : Int) < 4294967296 by decide)
  rw [Int.neg_tmod] at d2
  have ed : (Int.tmod (s - r) 4294967296) % 4294967296 = (s - r) % 4294967296 := by
    rw [Int.tmod_eq_emod]; split <;> omega
  generalize Int.tmod (s - r) 4294967296 = d at *
  have w2 : wrap64 (d + 4294967296) = d + 4294967296 := by unfold wrap64; omega
  rw [w2, Int.tmod_eq_emod_of_nonneg (by omega)]
  omega
theorem near_eq (n s : Int) (hn : -1152921504606846976 ≤ n) (hn' : n ≤ 1152921504606846976) (h0 : 0 ≤ s) (h1 : s ≤ 4294967295) :
    flywheelref05_Near.f 1 n s 32 = some (if (s - n) % 4294967296 ≤ 2147483648 then n + (s - n) % 4294967296 else n + (s - n) % 4294967296 - 4294967296) := by
  unfold flywheelref05_Near.f
  rw [if_neg (by decide), decide_eq_false (by decide)]
  simp only [flywheelref05_Near.j0, Bool.false_eq_true, if_false]
  have e32 : IntKind.u64.wrap 32 = 32 := by kernel_rfl
  have sh : shl .i64 1 32 = 4294967296 := by kernel_rfl
  have c1 : mx (-1152921504606846976) (mn n 1152921504606846976) = n := by unfold mn mx; (repeat' split) <;> omega
  have hf : wrap64 (Int.tdiv 4294967296 2) = 2147483648 := by kernel_rfl
  rw [e32, if_pos (by decide), sh, if_neg (by decide), c1, hf]
  unfold flywheelref05_mod.f
  rw [if_neg (by decide), tmod_near n s h0 h1]
  simp only [Option.bind_some]
  have d0 : 0 ≤ (s - n) % 4294967296 := by omega
  have d1 : (s - n) % 4294967296 < 4294967296 := by omega
  generalize (s - n) % 4294967296 = d at *
  have w1 : wrap64 (n + d) = n + d := by unfold wrap64; omega
  have w2 : wrap64 (n + d - 4294967296) = n + d - 4294967296 := by unfold wrap64; omega
  rw [w1, w2]
  split <;> rfl
theorem UnitsStamps : flywheellaw04_UnitsStamps.Pure := by
  intro a0 a1 a2 h0 h1 h2
  have h0 := isI64_of_wf h0
  have h1 := u32_of_wf h1
  have h2 := isI64_of_wf h2
  refine ⟨1, ?_⟩
  unfold flywheellaw04_UnitsStamps.f units_Stamp.f flywheelref04_Stamp.f
  rw [stamped_eq h0, rdo_eq 1 h0 (isI64_mk (by decide) (by decide)) (isI64_mk (by decide) (by decide))]
  simp only [Option.bind_some]
  rw [i64_and_low32, if_pos (by omega)]
  unfold units_FromStamp.f flywheelref04_FromStamp.f flywheelref01_Clamp.f
  have c1 : (if a2 < -1125899906842624 then some (-1125899906842624) else if a2 > 1125899906842624 then some 1125899906842624 else some a2) = some (mn (mx a2 (-1125899906842624)) 1125899906842624) := by
    unfold mn mx; repeat' split
    all_goals first | rfl | (congr 1; omega) | omega
  rw [c1]
  simp only [Option.bind_some]
  have b1 : -1125899906842624 ≤ mn (mx a2 (-1125899906842624)) 1125899906842624 ∧ mn (mx a2 (-1125899906842624)) 1125899906842624 ≤ 1125899906842624 := by
    unfold mn mx; repeat' split
    all_goals omega
  generalize mn (mx a2 (-1125899906842624)) 1125899906842624 = x at *
  have ix : isI64 x := isI64_mk (by omega) (by omega)
  rw [stamped_eq ix, rdo_eq 1 ix (isI64_mk (by decide) (by decide)) (isI64_mk (by decide) (by decide)), md_down (by decide) (isI64_mk (by omega) (by omega))]
  simp only [Option.bind_some]
  have b2 : -73786976294839 ≤ x * 65536 / 1000000 ∧ x * 65536 / 1000000 ≤ 73786976294839 := by omega
  generalize x * 65536 / 1000000 = n at *
  have wa : wrap64 a1 = a1 := by unfold wrap64; omega
  rw [wa, near_eq n a1 (by omega) (by omega) (by omega) (by omega)]
  simp only [Option.bind_some]
  have d0 : 0 ≤ (a1 - n) % 4294967296 := by omega
  have d1 : (a1 - n) % 4294967296 < 4294967296 := by omega
  generalize (a1 - n) % 4294967296 = d at *
  have K := @do_eq
  by_cases hd : d ≤ 2147483648
  · rw [if_pos hd, rdo_eq 3 (isI64_mk (by omega) (by omega)) (isI64_mk (by decide) (by decide)) (isI64_mk (by decide) (by decide))]
    by_cases he : d = 2147483648
    · have e1 : wrap64 (wrap32 d) = -2147483648 := by rw [he]; kernel_rfl
      rw [if_pos e1, he]
      have e2 : wrap64 (n + 2147483648) = n + 2147483648 := by unfold wrap64; omega
      rw [e2, do_eq 3 (isI64_mk (by omega) (by omega)) (isI64_mk (by decide) (by decide)) (isI64_mk (by decide) (by decide))]
      simp only [Option.bind_some, if_true, wakes04]
    · have e1 : wrap64 (wrap32 d) = d := by unfold wrap64 wrap32; omega
      have e2 : wrap64 (n + d) = n + d := by unfold wrap64; omega
      rw [e1, if_neg (by omega), e2, do_eq 3 (isI64_mk (by omega) (by omega)) (isI64_mk (by decide) (by decide)) (isI64_mk (by decide) (by decide))]
      simp only [Option.bind_some, if_true, wakes04]
  · rw [if_neg hd, rdo_eq 3 (isI64_mk (by omega) (by omega)) (isI64_mk (by decide) (by decide)) (isI64_mk (by decide) (by decide))]
    have e1 : wrap64 (wrap32 d) = d - 4294967296 := by unfold wrap64 wrap32; omega
    have e2 : wrap64 (n + (d - 4294967296)) = n + d - 4294967296 := by unfold wrap64; omega
    rw [e1, if_neg (by omega), e2, do_eq 3 (isI64_mk (by omega) (by omega)) (isI64_mk (by decide) (by decide)) (isI64_mk (by decide) (by decide))]
    simp only [Option.bind_some, if_true, wakes04]
end Go.Proofs.Ytipdmihaidpnpaa.Pure
