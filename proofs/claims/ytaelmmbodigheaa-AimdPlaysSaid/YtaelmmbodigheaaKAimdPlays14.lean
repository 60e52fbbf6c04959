-- PUT TOGETHER by a program of this session: of the claim's texts, what is used
import Derived.Test.YtaelmmbodigheaaKAimdPlays8
import Derived.Test.YtaelmmbodigheaaKAimdPlays9
import Derived.Test.YtaelmmbodigheaaKAimdPlays10
import Derived.Test.YtaelmmbodigheaaKAimdPlays11
import Derived.Test.YtaelmmbodigheaaKAimdPlays12
import Derived.Test.YtaelmmbodigheaaKAimdPlays13
import Derived.WalkArith
import Derived.KernelRfl
section
namespace Go.Proofs.Ytaelmmbodigheaa.P
open Go.RowKit
set_option linter.unusedVariables false
set_option linter.unusedSimpArgs false
def md (a b c how : Int) : Int := (mdq a b c how).1
theorem wrap64_id {a : Int} (h : isI64 a) : wrap64 a = a := by unfold isI64 at h; unfold wrap64; omega
theorem isI64_mk {a : Int} (h : -9223372036854775808 ≤ a) (h' : a ≤ 9223372036854775807) : isI64 a := ⟨h, h'⟩
theorem hold64_id (q : Int) (h : isI64 q) : hold64 q = (q, true) := by
  unfold isI64 at h; unfold hold64
  rw [if_neg (by omega), if_neg (by omega)]
theorem do_eq {a b c : Int} (how : Int) (ha : isI64 a) (hb : isI64 b) (hc : isI64 c) : muldiv_Do.f a b c how = some (md a b c how) := by
  unfold muldiv_Do.f muldiv_quotient_s.f
  rw [if_pos ⟨ha, hb, hc⟩]; rfl
theorem md_pos {a b c how : Int} (hc : 0 < c) (h1 : 1 ≤ how) (h3 : how ≤ 3) : md a b c how = (hold64 (rnd (a * b) c how)).1 := by
  unfold md mdq
  rw [if_neg (by omega), if_neg (by omega)]
theorem rnd_up (n d : Int) : rnd n d 3 = -((-n) / d) := by unfold rnd; rw [if_neg (by decide), if_pos rfl]
theorem rnd_near (n d : Int) : rnd n d 2 = (2 * n + d) / (2 * d) := by unfold rnd; rw [if_neg (by decide), if_neg (by decide)]
theorem md_up {a b c : Int} (hc : 0 < c) (h : isI64 (-((-(a * b)) / c))) : md a b c 3 = -((-(a * b)) / c) := by
  rw [md_pos hc (by decide) (by decide), rnd_up, hold64_id _ h]
end Go.Proofs.Ytaelmmbodigheaa.P
end

section
namespace Go.Proofs.Ytaelmmbodigheaa.P
open Go.RowKit
set_option linter.unusedVariables false
set_option linter.unusedSimpArgs false
def hd (x : Int) : Int := (hold64 x).1
theorem hd_eq (x : Int) : hd x = if x < -9223372036854775808 then -9223372036854775808 else if x > 9223372036854775807 then 9223372036854775807 else x := by
  unfold hd hold64
  split
  · rfl
  · split <;> rfl
theorem hd_id {x : Int} (h : isI64 x) : hd x = x := by unfold hd; rw [hold64_id _ h]
def ab (a : Int) : Int := if a < 0 then -a else a
end Go.Proofs.Ytaelmmbodigheaa.P
end

section
namespace Go.Proofs.Ytaelmmbodigheaa.P
open Go.RowKit
set_option linter.unusedVariables false
set_option linter.unusedSimpArgs false
theorem rsub_eq {a b : Int} (k : Nat) (hk : 1 ≤ k) (ha : isI64 a) (hb : isI64 b) : flywheelref01_Sub.f k a b = some (hd (a - b)) := by
  obtain ⟨k, rfl⟩ : ∃ j, k = j + 1 := ⟨k - 1, by omega⟩
  unfold isI64 at ha hb
  unfold flywheelref01_Sub.f
  simp only [flywheelref01_Sub.j0]
  rw [hd_eq]
  by_cases h1 : b < 0
  · rw [if_pos h1, wrap64_id (a := 9223372036854775807 + b) (by unfold isI64; omega)]
    by_cases h2 : a > 9223372036854775807 + b
    · simp only [h2, decide_true, if_true]
      rw [if_neg (by omega), if_pos (by omega)]
    · simp only [h2, decide_false, Bool.false_eq_true, if_false]
      rw [if_neg (by omega), if_neg (by omega), if_neg (by omega), wrap64_id (by unfold isI64; omega)]
  · rw [if_neg h1]
    simp only [Bool.false_eq_true, if_false]
    by_cases h2 : b > 0
    · rw [if_pos h2, wrap64_id (a := -9223372036854775808 + b) (by unfold isI64; omega)]
      by_cases h3 : a < -9223372036854775808 + b
      · rw [if_pos h3, if_pos (by omega)]
      · rw [if_neg h3, if_neg (by omega), if_neg (by omega), wrap64_id (by unfold isI64; omega)]
    · rw [if_neg h2, if_neg (by omega), if_neg (by omega), wrap64_id (by unfold isI64; omega)]
theorem rneg_eq {a : Int} (k : Nat) (hk : 1 ≤ k) (ha : isI64 a) : flywheelref01_Neg.f k a = some (hd (-a)) := by
  unfold flywheelref01_Neg.f
  rw [rsub_eq k hk (isI64_mk (by decide) (by decide)) ha]
  simp
theorem rabs_eq {a : Int} (k : Nat) (hk : 1 ≤ k) (ha : isI64 a) : flywheelref01_Abs.f k a = some (hd (ab a)) := by
  unfold flywheelref01_Abs.f ab
  by_cases h : a < 0
  · rw [if_pos h, if_pos h, rneg_eq k hk ha]; rfl
  · rw [if_neg h, if_neg h, hd_id ha]
end Go.Proofs.Ytaelmmbodigheaa.P
end

section
namespace Go.Proofs.Ytaelmmbodigheaa.P
open Go.RowKit Go.Proofs.YtaelmmbodigheaaW.PrintWords Go.Proofs.YtaelmmbodigheaaW.PrintLast Go.Proofs.YtaelmmbodigheaaW.PrintMore
set_option linter.unusedVariables false
set_option linter.unusedSimpArgs false
theorem held_eq {hi lo v : Int} (h0 : 0 ≤ hi) (h1 : hi < 18446744073709551616) (l0 : 0 ≤ lo) (l1 : lo < 18446744073709551616)
    (hv : v = (if hi < 9223372036854775808 then hi else hi - 18446744073709551616) * 18446744073709551616 + lo) : sat_held.f hi lo = some (hd v) := by
  unfold sat_held.f
  rw [hd_eq, u64_mod]
  have w1 : wrap64 lo = if lo < 9223372036854775808 then lo else lo - 18446744073709551616 := by unfold wrap64; omega
  have w2 : wrap64 hi = if hi < 9223372036854775808 then hi else hi - 18446744073709551616 := by unfold wrap64; omega
  rw [w1, w2]
  generalize hl : (if lo < 9223372036854775808 then lo else lo - 18446744073709551616) = L
  generalize hh : (if hi < 9223372036854775808 then hi else hi - 18446744073709551616) = H at hv
  have L1 : L = lo ∧ lo < 9223372036854775808 ∨ L = lo - 18446744073709551616 ∧ 9223372036854775808 ≤ lo := by
    rw [← hl]; split <;> omega
  have H1 : H = hi ∧ hi < 9223372036854775808 ∨ H = hi - 18446744073709551616 ∧ 9223372036854775808 ≤ hi := by
    rw [← hh]; split <;> omega
  clear hl hh w1 w2
  by_cases c : L / 9223372036854775808 % 18446744073709551616 = hi
  · rw [if_pos c, if_neg (by omega), if_neg (by omega)]; congr 1; omega
  · rw [if_neg c]
    by_cases s : H < 0
    · rw [if_pos s, if_pos (by omega)]
    · rw [if_neg s, if_neg (by omega), if_pos (by omega)]
theorem neg_eq {a : Int} (ha : isI64 a) : sat_Neg.f a = some (hd (-a)) := by
  unfold isI64 at ha
  unfold sat_Neg.f sat_negative.f
  have ua : IntKind.u64.wrap a = if a < 0 then a + 18446744073709551616 else a := by rw [u64_mod]; split <;> omega
  have us : IntKind.u64.wrap (a / 9223372036854775808) = if a < 0 then 18446744073709551615 else 0 := by rw [u64_mod]; split <;> omega
  have c0 : sub64c 0 (IntKind.u64.wrap a) 0 = if a = 0 then 0 else 1 := by
    rw [ua]; unfold sub64c; split <;> split <;> split <;> omega
  have s0 : sub64s 0 (IntKind.u64.wrap a) 0 = (-a) % 18446744073709551616 := by
    rw [ua]; unfold sub64s; split <;> omega
  rw [c0, s0, us]
  rw [if_pos (by split <;> omega)]
  simp only [Option.bind_some]
  have s1 : sub64s 0 (if a < 0 then 18446744073709551615 else 0) (if a = 0 then 0 else 1) = if 0 < a then 18446744073709551615 else 0 := by
    unfold sub64s; split <;> split <;> split <;> omega
  rw [s1, held_eq (v := -a) (by split <;> omega) (by split <;> omega) (by omega) (by omega) (by split <;> split <;> omega)]
  rfl
theorem abs_eq {a : Int} (ha : isI64 a) : sat_Abs.f a = some (hd (ab a)) := by
  unfold sat_Abs.f
  rw [neg_eq ha]
  have ha' := ha
  unfold isI64 at ha'
  simp only [Option.bind_some, Option.some.injEq, hd_eq]
  unfold mx ab
  repeat' split
  all_goals omega
end Go.Proofs.Ytaelmmbodigheaa.P
end

section
namespace Go.Proofs.Ytaelmmbodigheaa.P
open Go.RowKit
theorem rdo_eq {a b c : Int} (how : Int) (ha : isI64 a) (hb : isI64 b) (hc : isI64 c) : flywheelref02_Do.f a b c how = some (md a b c how) := by
  unfold flywheelref02_Do.f flywheelref02_Did_s.f
  rw [if_pos ⟨ha, hb, hc⟩]; rfl
end Go.Proofs.Ytaelmmbodigheaa.P
end

section
namespace Go.Proofs.Ytaelmmbodigheaa.P
open Go.RowKit Go.Proofs.YtaelmmbodigheaaW.PrintWords Go.Proofs.YtaelmmbodigheaaW.PrintLast Go.Proofs.YtaelmmbodigheaaW.PrintMore
set_option linter.unusedVariables false
set_option linter.unusedSimpArgs false
def cl (x lo hi : Int) : Int := if x < lo then lo else if x > hi then hi else x
theorem cl_span (x lo hi : Int) (h : lo ≤ hi) : lo ≤ cl x lo hi ∧ cl x lo hi ≤ hi := by unfold cl; repeat' split <;> omega
theorem clamp_cl (a lo hi : Int) : sat_Clamp.f a lo hi = some (cl a lo hi) := clamp_eq a lo hi
theorem rclamp_cl (a lo hi : Int) : flywheelref01_Clamp.f a lo hi = some (cl a lo hi) := rclamp_eq a lo hi
theorem mx_eq (a b : Int) : mx a b = if a < b then b else a := rfl
def aN (n : Int) : Int := cl n 0 1125899906842624
def aG (g : Int) : Int := cl g 0 17179869184
def aR (t : Int) : Int := cl t 1000 1000000
def aD (an : Bool) (la n : Int) : Int := if an = true then cl (aN n - la) 0 1000000 else 0
def nr1 (nr : Bool) (me sp G : Int) : Bool := nr && !decide (G > me + 3 * sp)
def by1 (r : Int) (n : Bool) (R D : Int) : Int := if n = true then md 9600 D (R + 100000) 3 else md r (8 * D) 100000000 3
def to1 (r G b : Int) : Int := if G > 0 ∧ 3 * G / 2 + 10000 < r + mx b 1000 then mx (3 * G / 2 + 10000) r else r + mx b 1000
abbrev A9 := Int × Int × Int × Int × Bool × Int × Int × Bool × Int
def cutR (r G : Int) : Int := mn r (md G 85 100 1)
def cutM (nr : Bool) (me sp G : Int) : Int := if nr = true then (if G < me - 3 * sp then G else me + md (G - me) 5 100 2) else G
def cutS (nr : Bool) (me sp G : Int) : Int := if nr = true then (if G < me - 3 * sp then sp else sp + md (ab (G - me) - sp) 5 100 2) else G / 10
def aU (r lo hi st : Int) (nr : Bool) (me sp : Int) (an : Bool) (la u g t n : Int) : A9 :=
  if u = 1 then (cl (cutR r (aG g)) lo hi, lo, hi, 0, true, cutM nr me sp (aG g), cutS nr me sp (aG g), true, aN n)
  else if u = 2 ∨ st = 2 then (cl r lo hi, lo, hi, 0, nr, me, sp, true, aN n)
  else (cl (to1 r (aG g) (by1 r (nr1 nr me sp (aG g)) (aR t) (aD an la n))) lo hi, lo, hi, 1, nr1 nr me sp (aG g), me, sp, true, aN n)
structure AI (r lo hi st me sp la : Int) : Prop where
  lo1 : 1 ≤ lo
  r0 : lo ≤ r
  r1 : r ≤ hi
  hi1 : hi ≤ 17179869184
  st0 : st = 0 ∨ st = 1
  me0 : 0 ≤ me
  me1 : me ≤ 17179869184
  sp0 : 0 ≤ sp
  sp1 : sp ≤ 17179869184
  la0 : 0 ≤ la
  la1 : la ≤ 1125899906842624
theorem aG_span (g : Int) : 0 ≤ aG g ∧ aG g ≤ 17179869184 := cl_span _ _ _ (by decide)
theorem aR_span (g : Int) : 1000 ≤ aR g ∧ aR g ≤ 1000000 := cl_span _ _ _ (by decide)
theorem aN_span (g : Int) : 0 ≤ aN g ∧ aN g ≤ 1125899906842624 := cl_span _ _ _ (by decide)
theorem aD_span (an : Bool) (la n : Int) : 0 ≤ aD an la n ∧ aD an la n ≤ 1000000 := by
  unfold aD; split
  · exact cl_span _ _ _ (by decide)
  · exact ⟨by decide, by decide⟩
theorem md5 {x : Int} (h0 : -34359738368 ≤ x) (h1 : x ≤ 34359738368) : md x 5 100 2 = (10 * x + 100) / 200 := by
  rw [md_pos (by decide) (by decide) (by decide), rnd_near]
  have e : 2 * (x * 5) + 100 = 10 * x + 100 := by omega
  rw [e, show (2 * 100 : Int) = 200 from rfl]
  exact hd_id (isI64_mk (by omega) (by omega))
theorem up_span {p c : Int} (hp : 0 ≤ p) (hc : 0 < c) (h : p ≤ 171798691841 * c) : 0 ≤ -((-p) / c) ∧ -((-p) / c) ≤ 171798691841 := by
  have h1 : -p / c ≤ 0 := Int.ediv_le_of_le_mul hc (by omega)
  have h2 : -171798691841 ≤ -p / c := Int.le_ediv_of_mul_le hc (by omega)
  omega
theorem prod_sp {r D : Int} (r0 : 0 ≤ r) (r1 : r ≤ 17179869184) (d0 : 0 ≤ D) (d1 : D ≤ 1000000) : 0 ≤ r * (8 * D) ∧ r * (8 * D) ≤ 17179869184 * 8000000 :=
  ⟨Int.mul_nonneg r0 (by omega), Int.mul_le_mul r1 (by omega) (by omega) (by decide)⟩
theorem by1_span {r : Int} (n : Bool) {R D : Int} (r0 : 0 ≤ r) (r1 : r ≤ 17179869184) (R0 : 1000 ≤ R) (R1 : R ≤ 1000000) (d0 : 0 ≤ D) (d1 : D ≤ 1000000) : 0 ≤ by1 r n R D ∧ by1 r n R D ≤ 171798691841 := by
  unfold by1
  split
  · have u := up_span (p := 9600 * D) (c := R + 100000) (by omega) (by omega) (by omega)
    rw [md_up (by omega) (isI64_mk (by omega) (by omega))]; exact u
  · have p := prod_sp r0 r1 d0 d1
    have u := up_span (p := r * (8 * D)) (c := 100000000) p.1 (by decide) (by omega)
    rw [md_up (by decide) (isI64_mk (by omega) (by omega))]; exact u
theorem i64s {a : Int} (h0 : -4611686018427387904 ≤ a) (h1 : a ≤ 4611686018427387904) : isI64 a := isI64_mk (by omega) (by omega)
theorem w64 {a : Int} (h0 : -4611686018427387904 ≤ a) (h1 : a ≤ 4611686018427387904) : wrap64 a = a := wrap64_id (i64s h0 h1)
theorem lift_j1 (k : Nat) (r lo hi st : Int) (nr : Bool) (me sp : Int) (an : Bool) (la G R D : Int) (r0 : 0 ≤ r) (r1 : r ≤ 17179869184) (g0 : 0 ≤ G) (g1 : G ≤ 17179869184) (R0 : 1000 ≤ R) (R1 : R ≤ 1000000) (d0 : 0 ≤ D) (d1 : D ≤ 1000000) :
    aimd_Aimd_lift.j1 (k + 1) r lo hi st nr me sp an la G R D = some (to1 r G (by1 r nr R D), lo, hi, st, nr, me, sp, an, la) ∧
    flywheelref19_Aimd_lift.j1 (k + 1) G R D r lo hi st nr me sp an la = some (to1 r G (by1 r nr R D), lo, hi, st, nr, me, sp, an, la) := by
  have b := by1_span nr r0 r1 R0 R1 d0 d1
  have hB : ∀ b : Int, 0 ≤ b → b ≤ 171798691841 → wrap64 (r + mx b 1000) = r + mx b 1000 := fun b h0 h1 => by rw [mx_eq]; split <;> exact w64 (by omega) (by omega)
  have hT : Int.tdiv (wrap64 (3 * G)) 2 = 3 * G / 2 := by rw [w64 (by omega) (by omega), Int.tdiv_eq_ediv_of_nonneg (by omega)]
  simp only [aimd_Aimd_lift.j1, flywheelref19_Aimd_lift.j1]
  rw [w64 (a := 8 * D) (by omega) (by omega), w64 (a := R + 100000) (by omega) (by omega), do_eq 3 (i64s (by omega) (by omega)) (i64s (by omega) (by omega)) (i64s (by decide) (by decide)), do_eq (a := 9600) 3 (i64s (by omega) (by omega)) (i64s (by omega) (by omega)) (i64s (by omega) (by omega)),
    rdo_eq 3 (i64s (by omega) (by omega)) (i64s (by omega) (by omega)) (i64s (by decide) (by decide)), rdo_eq (a := 9600) 3 (i64s (by omega) (by omega)) (i64s (by omega) (by omega)) (i64s (by omega) (by omega)), hT, w64 (a := 3 * G / 2) (by omega) (by omega), w64 (a := 3 * G / 2 + 10000) (by omega) (by omega)]
  simp only [Option.bind_some]
  unfold by1 at b ⊢
  unfold to1
  cases nr with
  | true =>
    simp only [if_true] at b ⊢
    rw [hB _ b.1 b.2]
    by_cases h1 : G > 0
    · by_cases h2 : 3 * G / 2 + 10000 < r + mx (md 9600 D (R + 100000) 3) 1000
      · simp [h1, h2]
      · simp [h1, h2]
    · simp [h1]
  | false =>
    simp only [Bool.false_eq_true, if_false] at b ⊢
    rw [hB _ b.1 b.2]
    by_cases h1 : G > 0
    · by_cases h2 : 3 * G / 2 + 10000 < r + mx (md r (8 * D) 100000000 3) 1000
      · simp [h1, h2]
      · simp [h1, h2]
    · simp [h1]
theorem lift_j0 (k : Nat) (b : Bool) (r lo hi st : Int) (nr : Bool) (me sp : Int) (an : Bool) (la G R D : Int) (r0 : 0 ≤ r) (r1 : r ≤ 17179869184) (g0 : 0 ≤ G) (g1 : G ≤ 17179869184) (R0 : 1000 ≤ R) (R1 : R ≤ 1000000) (d0 : 0 ≤ D) (d1 : D ≤ 1000000) :
    aimd_Aimd_lift.j0 (k + 2) b r lo hi st nr me sp an la G R D = some (to1 r G (by1 r (nr && !b) R D), lo, hi, st, nr && !b, me, sp, an, la) ∧
    flywheelref19_Aimd_lift.j0 (k + 2) G R D b r lo hi st nr me sp an la = some (to1 r G (by1 r (nr && !b) R D), lo, hi, st, nr && !b, me, sp, an, la) := by
  simp only [aimd_Aimd_lift.j0, flywheelref19_Aimd_lift.j0]
  cases b with
  | true => simpa using lift_j1 k r lo hi st false me sp an la G R D r0 r1 g0 g1 R0 R1 d0 d1
  | false => simpa using lift_j1 k r lo hi st nr me sp an la G R D r0 r1 g0 g1 R0 R1 d0 d1
theorem lift_eq (k : Nat) (r lo hi st : Int) (nr : Bool) (me sp : Int) (an : Bool) (la G R D : Int) (r0 : 0 ≤ r) (r1 : r ≤ 17179869184) (m0 : 0 ≤ me) (m1 : me ≤ 17179869184) (s0 : 0 ≤ sp) (s1 : sp ≤ 17179869184) (g0 : 0 ≤ G) (g1 : G ≤ 17179869184) (R0 : 1000 ≤ R) (R1 : R ≤ 1000000) (d0 : 0 ≤ D) (d1 : D ≤ 1000000) :
    aimd_Aimd_lift.f (k + 2) r lo hi st nr me sp an la G R D = some (to1 r G (by1 r (nr1 nr me sp G) R D), lo, hi, st, nr1 nr me sp G, me, sp, an, la) ∧
    flywheelref19_Aimd_lift.f (k + 2) r lo hi st nr me sp an la G R D = some (to1 r G (by1 r (nr1 nr me sp G) R D), lo, hi, st, nr1 nr me sp G, me, sp, an, la) := by
  unfold aimd_Aimd_lift.f flywheelref19_Aimd_lift.f nr1
  rw [w64 (a := 3 * sp) (by omega) (by omega), w64 (a := me + 3 * sp) (by omega) (by omega)]
  cases nr with
  | true => exact lift_j0 k (decide (G > me + 3 * sp)) r lo hi st true me sp an la G R D r0 r1 g0 g1 R0 R1 d0 d1
  | false => exact lift_j0 k false r lo hi st false me sp an la G R D r0 r1 g0 g1 R0 R1 d0 d1
theorem ab_sp {x : Int} (h0 : -17179869184 ≤ x) (h1 : x ≤ 17179869184) : 0 ≤ ab x ∧ ab x ≤ 17179869184 := by unfold ab; split <;> omega
theorem cut_eq (k : Nat) (r lo hi st : Int) (nr : Bool) (me sp : Int) (an : Bool) (la G R D : Int) (r0 : 0 ≤ r) (r1 : r ≤ 17179869184) (m0 : 0 ≤ me) (m1 : me ≤ 17179869184) (s0 : 0 ≤ sp) (s1 : sp ≤ 17179869184) (g0 : 0 ≤ G) (g1 : G ≤ 17179869184) :
    aimd_Aimd_cut.f r lo hi st nr me sp an la G R D = some (cutR r G, lo, hi, 0, true, cutM nr me sp G, cutS nr me sp G, an, la) ∧
    flywheelref19_Aimd_cut.f (k + 1) r lo hi st nr me sp an la G = some (cutR r G, lo, hi, st, true, cutM nr me sp G, cutS nr me sp G, an, la) := by
  have a := ab_sp (x := G - me) (by omega) (by omega)
  have ea : hd (ab (G - me)) = ab (G - me) := hd_id (i64s (by omega) (by omega))
  unfold aimd_Aimd_cut.f flywheelref19_Aimd_cut.f cutR cutM cutS
  rw [do_eq 1 (i64s (by omega) (by omega)) (i64s (by decide) (by decide)) (i64s (by decide) (by decide)), rdo_eq 1 (i64s (by omega) (by omega)) (i64s (by decide) (by decide)) (i64s (by decide) (by decide)), w64 (a := 3 * sp) (by omega) (by omega), w64 (a := me - 3 * sp) (by omega) (by omega), w64 (a := G - me) (by omega) (by omega), abs_eq (i64s (by omega) (by omega)), rabs_eq (k + 1) (by omega) (i64s (by omega) (by omega)), ea,
    do_eq (a := G - me) 2 (i64s (by omega) (by omega)) (i64s (by decide) (by decide)) (i64s (by decide) (by decide)), rdo_eq (a := G - me) 2 (i64s (by omega) (by omega)) (i64s (by decide) (by decide)) (i64s (by decide) (by decide)), Int.tdiv_eq_ediv_of_nonneg (show (0 : Int) ≤ G by omega), w64 (a := G / 10) (by omega) (by omega)]
  simp only [Option.bind_some]
  rw [w64 (a := ab (G - me) - sp) (by omega) (by omega), do_eq (a := ab (G - me) - sp) 2 (i64s (by omega) (by omega)) (i64s (by decide) (by decide)) (i64s (by decide) (by decide)), rdo_eq (a := ab (G - me) - sp) 2 (i64s (by omega) (by omega)) (i64s (by decide) (by decide)) (i64s (by decide) (by decide)),
    md5 (x := G - me) (by omega) (by omega), md5 (x := ab (G - me) - sp) (by omega) (by omega)]
  simp only [Option.bind_some]
  rw [w64 (a := me + (10 * (G - me) + 100) / 200) (by omega) (by omega), w64 (a := sp + (10 * (ab (G - me) - sp) + 100) / 200) (by omega) (by omega)]
  cases nr with
  | true =>
    by_cases h : G < me - 3 * sp
    · simp [h]
    · simp [h]
  | false => simp
theorem up_eq (k : Nat) {r lo hi st : Int} (nr : Bool) {me sp : Int} (an : Bool) {la : Int} (u g t n : Int) (h : AI r lo hi st me sp la) :
    aimd_Aimd_Update.f (k + 3) r lo hi st nr me sp an la u g t n = some ((aU r lo hi st nr me sp an la u g t n).1, aU r lo hi st nr me sp an la u g t n) := by
  obtain ⟨h1, h2, h3, h4, h5, h6, h7, h8, h9, h10, h11⟩ := h
  have G := aG_span g; have R := aR_span t; have N := aN_span n; have D := aD_span an la n
  have key : ∀ D : Int, 0 ≤ D → D ≤ 1000000 → aD an la n = D → aimd_Aimd_Update.j0 (k + 3) u (aN n) r lo hi st nr me sp an la (aG g) (aR t) D = some ((aU r lo hi st nr me sp an la u g t n).1, aU r lo hi st nr me sp an la u g t n) := by
    intro D d0 d1 e
    simp only [aimd_Aimd_Update.j0, mkmap.f, Option.bind_some, (cut_eq k r lo hi 2 nr me sp true (aN n) (aG g) (aR t) D (by omega) (by omega) h6 h7 h8 h9 G.1 G.2).1, aimd_Aimd_hold.f, (lift_eq k r lo hi 1 nr me sp true (aN n) (aG g) (aR t) D (by omega) (by omega) h6 h7 h8 h9 G.1 G.2 R.1 R.2 d0 d1).1, clamp_cl]
    unfold aU
    rw [e]
    by_cases u1 : u = 1
    · simp [u1]
    · by_cases u2 : u = 2
      · simp [u2]
      · have s2 : ¬ st = 2 := by omega
        simp [u1, u2, s2]
  unfold aimd_Aimd_Update.f
  simp only [clamp_cl, Option.bind_some]
  have eN : cl n 0 1125899906842624 = aN n := rfl
  have eG : cl g 0 17179869184 = aG g := rfl
  have eR : cl t 1000 1000000 = aR t := rfl
  rw [eN, eG, eR, w64 (a := aN n - la) (by omega) (by omega)]
  cases an with
  | true => simp only [if_true]; exact key _ (cl_span _ _ _ (by decide)).1 (cl_span _ _ _ (by decide)).2 (by simp [aD])
  | false => simp only [Bool.false_eq_true, if_false]; exact key 0 (by decide) (by decide) (by simp [aD])
theorem rup_eq (k : Nat) {r lo hi st : Int} (nr : Bool) {me sp : Int} (an : Bool) {la : Int} (u g t n : Int) (h : AI r lo hi st me sp la) :
    flywheelref19_Aimd_Update.f (k + 5) r lo hi st nr me sp an la u g t n = some ((aU r lo hi st nr me sp an la u g t n).1, aU r lo hi st nr me sp an la u g t n) := by
  obtain ⟨h1, h2, h3, h4, h5, h6, h7, h8, h9, h10, h11⟩ := h
  have G := aG_span g; have R := aR_span t; have N := aN_span n; have D := aD_span an la n
  have key : ∀ D : Int, 0 ≤ D → D ≤ 1000000 → aD an la n = D → flywheelref19_Aimd_Update.j0 (k + 5) u (aG g) (aR t) (aN n) D r lo hi st nr me sp an la = some ((aU r lo hi st nr me sp an la u g t n).1, aU r lo hi st nr me sp an la u g t n) := by
    intro D d0 d1 e
    have c := fun st k => (cut_eq k r lo hi st nr me sp true (aN n) (aG g) (aR t) D (by omega) (by omega) h6 h7 h8 h9 G.1 G.2).2
    have l := fun st k => (lift_eq k r lo hi st nr me sp true (aN n) (aG g) (aR t) D (by omega) (by omega) h6 h7 h8 h9 G.1 G.2 R.1 R.2 d0 d1).2
    have L2 := l 1 (k + 1); have L1 := l 1 k; have C1 := c 2 (k + 2)
    simp only [Nat.add_assoc, Nat.reduceAdd] at L2 L1 C1
    unfold aU
    rw [e]
    by_cases u1 : u = 1
    · simp [flywheelref19_Aimd_Update.j0, flywheelref19_Aimd_Update.j2, u1, C1, rclamp_cl]
    · by_cases u2 : u = 2
      · simp [flywheelref19_Aimd_Update.j0, flywheelref19_Aimd_Update.j1, flywheelref19_Aimd_Update.j2, u2, rclamp_cl]
      · rcases h5 with rfl | rfl
        · simp [flywheelref19_Aimd_Update.j0, flywheelref19_Aimd_Update.j1, flywheelref19_Aimd_Update.j2, u1, u2, L1, rclamp_cl]
        · simp [flywheelref19_Aimd_Update.j0, flywheelref19_Aimd_Update.j1, flywheelref19_Aimd_Update.j2, u1, u2, L1, rclamp_cl]
  unfold flywheelref19_Aimd_Update.f
  simp only [rclamp_cl, Option.bind_some]
  have eN : cl n 0 1125899906842624 = aN n := rfl
  have eG : cl g 0 17179869184 = aG g := rfl
  have eR : cl t 1000 1000000 = aR t := rfl
  rw [eN, eG, eR, w64 (a := aN n - la) (by omega) (by omega)]
  cases an with
  | true => simp only [if_true]; exact key _ (cl_span _ _ _ (by decide)).1 (cl_span _ _ _ (by decide)).2 (by simp [aD])
  | false => simp only [Bool.false_eq_true, if_false]; exact key 0 (by decide) (by decide) (by simp [aD])
theorem aU_AI {r lo hi st : Int} (nr : Bool) {me sp : Int} (an : Bool) {la : Int} (u g t n : Int) (h : AI r lo hi st me sp la) :
    ∃ r' st' nr' me' sp', aU r lo hi st nr me sp an la u g t n = (r', lo, hi, st', nr', me', sp', true, aN n) ∧ AI r' lo hi st' me' sp' (aN n) := by
  obtain ⟨h1, h2, h3, h4, h5, h6, h7, h8, h9, h10, h11⟩ := h
  have G := aG_span g; have N := aN_span n
  have a := ab_sp (x := aG g - me) (by omega) (by omega)
  unfold aU
  split
  · have c := cl_span (cutR r (aG g)) lo hi (by omega)
    refine ⟨_, _, _, _, _, rfl, h1, c.1, c.2, h4, Or.inl rfl, ?_, ?_, ?_, ?_, N.1, N.2⟩
    all_goals (first | (unfold cutM; rw [md5 (by omega) (by omega)]; repeat' split <;> omega) | (unfold cutS; rw [md5 (by omega) (by omega)]; repeat' split <;> omega))
  · split
    · have c := cl_span r lo hi (by omega)
      exact ⟨_, _, _, _, _, rfl, h1, c.1, c.2, h4, Or.inl rfl, h6, h7, h8, h9, N.1, N.2⟩
    · have c := cl_span (to1 r (aG g) (by1 r (nr1 nr me sp (aG g)) (aR t) (aD an la n))) lo hi (by omega)
      exact ⟨_, _, _, _, _, rfl, h1, c.1, c.2, h4, Or.inr rfl, h6, h7, h8, h9, N.1, N.2⟩
end Go.Proofs.Ytaelmmbodigheaa.P
end

section
namespace Go.Proofs.Ytaelmmbodigheaa.Pure
open Go.RowKit Go.Proofs.Ytaelmmbodigheaa.P Go.Proofs.YtaelmmbodigheaaW.PrintWords Go.Proofs.YtaelmmbodigheaaW.PrintLast Go.Proofs.YtaelmmbodigheaaW.PrintMore
set_option linter.unusedVariables false
set_option linter.unusedSimpArgs false
theorem wakes19 : flywheellaw19_wakes.f 12 = some true := by kernel_rfl
theorem wakes19_ge (k : Nat) (h : 12 ≤ k) : flywheellaw19_wakes.f k = some true := by
  obtain ⟨d, rfl⟩ : ∃ d, k = 12 + d := ⟨k - 12, by omega⟩
  clear h
  induction d with
  | zero => exact wakes19
  | succ d ih => exact flywheellaw19_wakes.mono _ _ ih
theorem wk19 (k : Nat) (h : 12 ≤ k) : ((flywheellaw19_wakes.f k).bind fun t => some t) = some true := by rw [wakes19_ge k h]; rfl
theorem wn19 (i : Nat) (h : i ≤ 300) : wrap64 ((i : Int) + 1) = ((i + 1 : Nat) : Int) := by rw [wrap64_id (isI64_mk (by omega) (by omega))]; omega
theorem new_two (a b c : Int) : (aimd_New.made.f a b c = some (a, b, c, 0, false, 0, 0, false, 0, 0) ∧ flywheelref19_New.made.f a b c = some (a, b, c, 0, false, 0, 0, false, 0, 0) ∧ AI a b c 0 0 0 0) ∨
    (aimd_New.made.f a b c = none ∧ flywheelref19_New.made.f a b c = none ∧ aimd_New.nil.f a b c = some 1 ∧ flywheelref19_New.nil.f a b c = some 1 ∧ flywheelref19_Rates.f a b c = some false) := by
  unfold aimd_New.made.f flywheelref19_New.made.f aimd_New.nil.f flywheelref19_New.nil.f flywheelref19_Rates.f
  by_cases h1 : b < 1
  · right; simp [h1, show ¬ 1 ≤ b by omega]
  · by_cases h2 : a < b
    · right; simp [h1, h2, show 1 ≤ b by omega, show ¬ b ≤ a by omega]
    · by_cases h3 : c < a
      · right; simp [h1, h2, h3, show 1 ≤ b by omega, show b ≤ a by omega, show ¬ a ≤ c by omega]
      · by_cases h4 : c > 17179869184
        · right; simp [h1, h2, h3, h4, show 1 ≤ b by omega, show b ≤ a by omega, show a ≤ c by omega, show ¬ c ≤ 17179869184 by omega]
        · left; refine ⟨by simp [h1, h2, h3, h4], by simp [show 1 ≤ b by omega, show b ≤ a by omega, show a ≤ c by omega, show c ≤ 17179869184 by omega], by omega, by omega, by omega, by omega, Or.inl rfl, by decide, by decide, by decide, by decide, by decide, by decide⟩
theorem AimdPlays : flywheellaw19_AimdPlays.Pure := by
  intro a b c l _ _ _ hl hs hw
  have loop : ∀ (m i k : Nat) (r lo hi st : Int) (nr : Bool) (me sp : Int) (an : Bool) (la : Int), i + m = 200 → 20 + m ≤ k → AI r lo hi st me sp la → flywheellaw19_AimdPlays.l0 k l i r lo hi st nr me sp an la r lo hi st nr me sp an la = some true := by
    intro m
    induction m with
    | zero =>
      intro i k r lo hi st nr me sp an la hi' hk h
      obtain ⟨k, rfl⟩ : ∃ j, k = j + 1 := ⟨k - 1, by omega⟩
      simp only [flywheellaw19_AimdPlays.l0]
      rw [if_neg (show ¬ (i : Int) < 200 by omega)]
      split <;> exact wk19 k (by omega)
    | succ m ih =>
      intro i k r lo hi st nr me sp an la hi' hk h
      obtain ⟨k, rfl⟩ : ∃ j, k = j + 1 := ⟨k - 1, by omega⟩
      simp only [flywheellaw19_AimdPlays.l0]
      obtain ⟨k, rfl⟩ : ∃ j, k = j + 5 := ⟨k - 5, by omega⟩
      by_cases c : (i : Int) < (l.length : Int)
      · rw [if_pos c, if_pos (show (i : Int) < 200 by omega), if_pos (show (0 : Int) ≤ (i : Int) by omega), up_eq (k + 2) nr an _ _ _ _ h, rup_eq k nr an _ _ _ _ h]
        obtain ⟨r', st', nr', me', sp', e, h'⟩ := aU_AI nr an (rd_T34 l (i : Int)).f0 (rd_T34 l (i : Int)).f1 (rd_T34 l (i : Int)).f2 (rd_T34 l (i : Int)).f3 h
        rw [e]
        simp only [Option.bind_some, if_true, aimd_Aimd_Rate.f, flywheelref19_Aimd_Rate.f, aimd_Aimd_State.f, flywheelref19_Aimd_State.f]
        rw [wn19 i (by omega)]
        exact ih (i + 1) (k + 5) _ _ _ _ _ _ _ _ _ (by omega) (by omega) h'
      · rw [if_neg c]; exact wk19 (k + 5) (by omega)
  refine ⟨240, ?_⟩
  unfold flywheellaw19_AimdPlays.f
  rcases new_two a b c with ⟨e1, e2, h⟩ | ⟨e1, e2, e3, e4, _⟩
  · rw [e1, e2]
    simp only [Option.isSome_some, if_true, Option.bind_some]
    exact loop 200 0 240 _ _ _ _ _ _ _ _ _ (by decide) (by decide) h
  · rw [e1, e2, e3, e4]
    simp only [Option.isSome_none, Bool.false_eq_true, if_false, Option.bind_some, if_true]
    have no : ∀ k, 12 ≤ k → flywheellaw19_AimdPlays.l5000 (k + 1) l 0 = some true := by
      intro k hk
      simp only [flywheellaw19_AimdPlays.l5000]
      repeat' split
      all_goals exact wk19 k hk
    exact no 239 (by decide)
end Go.Proofs.Ytaelmmbodigheaa.Pure
end

section

end
