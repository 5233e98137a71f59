/- PLAIN: the arithmetic of a division by a number below 2^32, in halves. -/
import Derived.Laws.MathBits
import Derived.Laws.Bits64b
import Derived.Shelf.Small.Bits
set_option linter.unusedVariables false
namespace Go.Proofs.YtemfhipofgafiaaGreatDoor.PlainDiv
open Go

/-- One step: the quotient of (hi, lo1) by Y·2^32, where lo1 is half a word. -/
theorem step (U Y l : Int) (hY0 : 2147483648 ≤ Y) (hY : Y < 4294967296) (hU0 : 0 ≤ U) (hU : U < Y * 4294967296) (hl0 : 0 ≤ l) (hl : l < 4294967296) :
    ∃ Q R : Int, U = Q * Y + R ∧ 0 ≤ R ∧ R < Y ∧ 0 ≤ Q ∧ Q < 4294967296 ∧ U / Y = Q ∧
      (((U * 4294967296) % 18446744073709551616 + l) % 18446744073709551616 - (Q * (Y * 4294967296)) % 18446744073709551616) % 18446744073709551616 = R * 4294967296 + l ∧
      U * 4294967296 + l = Q * (Y * 4294967296) + (R * 4294967296 + l) ∧ 0 ≤ R * 4294967296 + l ∧ R * 4294967296 + l < Y * 4294967296 := by
  have e : U / Y * Y + U % Y = U := by have := Int.emod_add_mul_ediv U Y; rw [Int.mul_comm Y] at this; omega
  have r0 : 0 ≤ U % Y := Int.emod_nonneg _ (by omega)
  have r1 : U % Y < Y := Int.emod_lt_of_pos _ (by omega)
  have q0 : 0 ≤ U / Y := Int.ediv_nonneg hU0 (by omega)
  have q1 : U / Y < 4294967296 := Int.ediv_lt_of_lt_mul (by omega) (by rw [Int.mul_comm]; exact hU)
  have e2 : U * 4294967296 + l = U / Y * (Y * 4294967296) + (U % Y * 4294967296 + l) := by
    rw [← Int.mul_assoc]; omega
  refine ⟨U / Y, U % Y, by omega, r0, r1, q0, q1, rfl, ?_, e2, by omega, by omega⟩
  generalize hA : U / Y * (Y * 4294967296) = A at *
  generalize U % Y = R at *
  omega

theorem or_add (a b p n : Nat) (hp : p = 2 ^ n) (hb : b < p) (hab : a * p + b < 18446744073709551616) : bits .or .u64 ((a * p : Nat) : Int) (b : Int) = ((a * p + b : Nat) : Int) := by
  rw [bits_or_u64_nat _ _ (by omega) (by omega)]
  subst hp
  rw [Nat.mul_comm a, Nat.two_pow_add_eq_or_of_lt hb]

/-- The high and the low word of a number that is moved by n bits. -/
theorem shifted (hi lo y : Nat) (n k : Nat) (hnk : n + k = 64) (hhi : hi < y) (hlo : lo < 18446744073709551616) (hy : y * 2 ^ n < 18446744073709551616) :
    bits .or .u64 (IntKind.u64.wrap ((hi : Int) * 2 ^ n)) ((lo : Int) / 2 ^ k) = ((hi * 2 ^ n + lo / 2 ^ k : Nat) : Int) ∧
    IntKind.u64.wrap ((lo : Int) * 2 ^ n) = ((lo % 2 ^ k * 2 ^ n : Nat) : Int) ∧ hi * 2 ^ n + lo / 2 ^ k < y * 2 ^ n ∧
    (hi * 18446744073709551616 + lo) * 2 ^ n = (hi * 2 ^ n + lo / 2 ^ k) * 18446744073709551616 + lo % 2 ^ k * 2 ^ n := by
  have hK : 2 ^ n * 2 ^ k = 18446744073709551616 := by rw [← Nat.pow_add, hnk]
  have hp0 : 0 < 2 ^ n := Nat.two_pow_pos n
  have hk0 : 0 < 2 ^ k := Nat.two_pow_pos k
  have l1 : lo / 2 ^ k < 2 ^ n := (Nat.div_lt_iff_lt_mul hk0).2 (by rw [hK]; exact hlo)
  have l2 : lo % 2 ^ k < 2 ^ k := Nat.mod_lt _ hk0
  have l3 : 2 ^ k * (lo / 2 ^ k) + lo % 2 ^ k = lo := Nat.div_add_mod lo (2 ^ k)
  have h1 : (hi + 1) * 2 ^ n ≤ y * 2 ^ n := Nat.mul_le_mul_right _ hhi
  have h2 : hi * 2 ^ n + 2 ^ n ≤ y * 2 ^ n := by rw [Nat.add_mul, Nat.one_mul] at h1; exact h1
  have h3 : lo % 2 ^ k * 2 ^ n < 18446744073709551616 := by rw [← hK, Nat.mul_comm (2 ^ n)]; exact Nat.mul_lt_mul_of_pos_right l2 hp0
  have h4 : lo * 2 ^ n = lo / 2 ^ k * 18446744073709551616 + lo % 2 ^ k * 2 ^ n := by
    have : lo * 2 ^ n = (2 ^ k * (lo / 2 ^ k) + lo % 2 ^ k) * 2 ^ n := by rw [l3]
    rw [this, Nat.add_mul, ← hK]
    congr 1
    rw [Nat.mul_comm (2 ^ k), Nat.mul_assoc, Nat.mul_comm (2 ^ k)]
  refine ⟨?_, ?_, by omega, ?_⟩
  · have e1 : IntKind.u64.wrap ((hi : Int) * 2 ^ n) = ((hi * 2 ^ n : Nat) : Int) := by
      rw [IntKind.wrap_u64]
      have : ((hi : Int) * 2 ^ n) = ((hi * 2 ^ n : Nat) : Int) := by simp
      rw [this]; omega
    have e2 : ((lo : Int) / 2 ^ k) = ((lo / 2 ^ k : Nat) : Int) := by simp
    rw [e1, e2]
    exact or_add _ _ _ n rfl l1 (by omega)
  · rw [IntKind.wrap_u64]
    have : ((lo : Int) * 2 ^ n) = ((lo * 2 ^ n : Nat) : Int) := by simp
    rw [this, h4]
    omega
  · rw [Nat.add_mul, Nat.add_mul, Nat.add_assoc, ← h4, Nat.mul_assoc, Nat.mul_assoc, Nat.mul_comm (2 ^ n)]

theorem len_spec : ∀ (f y : Nat), 0 < y → y < 2 ^ f → f ≤ 64 → ∃ b, Lib.bitLen y = b + 1 ∧ b < f ∧ 2 ^ b ≤ y ∧ y < 2 ^ (b + 1)
  | 0, y, h0, h, _ => by simp at h; omega
  | f + 1, y, h0, h, hf => by
    have hy : y < 2 ^ 64 := Nat.lt_of_lt_of_le h (Nat.pow_le_pow_right (by omega) hf)
    rw [Lib.bitLen_half y (by omega) hy]
    by_cases h1 : y = 1
    · subst h1
      exact ⟨0, by rfl, by omega, by simp, by simp⟩
    · obtain ⟨b, e, hb, l1, l2⟩ := len_spec f (y / 2) (by omega) (by rw [Nat.pow_succ] at h; omega) (by omega)
      refine ⟨b + 1, by omega, by omega, ?_, ?_⟩
      · rw [Nat.pow_succ]; omega
      · rw [Nat.pow_succ]; omega

/-- The number of noughts ahead. -/
theorem zeros (y : Nat) (h0 : 0 < y) (h : y < 4294967296) : ∃ n : Nat, (64 : Int) - (Lib.bitLen y : Int) = (n : Int) ∧ 32 ≤ n ∧ n ≤ 63 ∧ 9223372036854775808 ≤ y * 2 ^ n ∧ y * 2 ^ n < 18446744073709551616 := by
  obtain ⟨b, e, hb, l1, l2⟩ := len_spec 32 y h0 (by simpa using h) (by omega)
  refine ⟨63 - b, by rw [e]; omega, by omega, by omega, ?_, ?_⟩
  · have : 2 ^ b * 2 ^ (63 - b) = 9223372036854775808 := by rw [← Nat.pow_add, show b + (63 - b) = 63 by omega]
    rw [← this]; exact Nat.mul_le_mul_right _ l1
  · have : 2 ^ (b + 1) * 2 ^ (63 - b) = 18446744073709551616 := by rw [← Nat.pow_add, show b + 1 + (63 - b) = 64 by omega]
    rw [← this]; exact Nat.mul_lt_mul_of_pos_right l2 (Nat.two_pow_pos _)

theorem unique (hi lo y p : Nat) (hp : 0 < p) (hy : 0 < y) (q z : Int) (h : ((hi : Int) * 18446744073709551616 + lo) * (p : Int) = q * ((y : Int) * (p : Int)) + z) (z0 : 0 ≤ z) (z1 : z < (y : Int) * (p : Int)) :
    q = ((hi : Int) * 18446744073709551616 + lo) / y ∧ z / (p : Int) = ((hi : Int) * 18446744073709551616 + lo) % y := by
  generalize (hi : Int) * 18446744073709551616 + lo = N at *
  have hp' : (0 : Int) < p := by omega
  have hy' : (0 : Int) < y := by omega
  have hyp : (0 : Int) < (y : Int) * (p : Int) := Int.mul_pos hy' hp'
  have e1 : N * (p : Int) / ((y : Int) * (p : Int)) = q := by
    rw [h, Int.add_comm, Int.add_mul_ediv_right _ _ (by omega), Int.ediv_eq_zero_of_lt z0 z1]; omega
  have e2 : N * (p : Int) % ((y : Int) * (p : Int)) = z := by
    rw [h, Int.add_comm, Int.add_mul_emod_self_right, Int.emod_eq_of_lt z0 z1]
  rw [Int.mul_ediv_mul_of_pos_left _ _ hp'] at e1
  rw [Int.mul_comm N, Int.mul_comm (y : Int), Int.mul_emod_mul_of_pos _ _ hp'] at e2
  exact ⟨e1.symm, by rw [← e2, Int.mul_ediv_cancel_left _ (by omega)]⟩

/-- All that the division comes to. -/
theorem all (hi lo y : Nat) (h1 : 0 < hi) (h2 : hi < y) (h3 : y < 4294967296) (hlo : lo < 18446744073709551616) :
    ∃ (n k : Nat) (Yv Y U L L1 L0 Q T V Q0 T0 Z : Int), (64 : Int) - (Lib.bitLen y : Int) = (n : Int) ∧ 32 ≤ n ∧ n ≤ 63 ∧ min n 64 = n ∧ (64 : Int) - n = k ∧ min k 64 = k ∧
    IntKind.u64.wrap ((y : Int) * 2 ^ n) = Yv ∧ Yv / 4294967296 = Y ∧ bits .and .u64 Yv 4294967295 = 0 ∧
    bits .or .u64 (IntKind.u64.wrap ((hi : Int) * 2 ^ n)) ((lo : Int) / 2 ^ k) = U ∧ IntKind.u64.wrap ((lo : Int) * 2 ^ n) = L ∧ L / 4294967296 = L1 ∧ bits .and .u64 L 4294967295 = L0 ∧
    1 ≤ Y ∧ 0 ≤ U ∧ IntKind.u64.wrap (U.tdiv Y) = Q ∧ 0 ≤ Q ∧ Q < 4294967296 ∧ IntKind.u64.wrap (Q * Y) = T ∧ T ≤ U ∧ U - T < 4294967296 ∧ 0 ≤ L1 ∧ L1 < 4294967296 ∧
    IntKind.u64.wrap (IntKind.u64.wrap (IntKind.u64.wrap (U * 4294967296) + L1) - IntKind.u64.wrap (Q * Yv)) = V ∧ 0 ≤ V ∧
    IntKind.u64.wrap (V.tdiv Y) = Q0 ∧ 0 ≤ Q0 ∧ Q0 < 4294967296 ∧ IntKind.u64.wrap (Q0 * Y) = T0 ∧ T0 ≤ V ∧ V - T0 < 4294967296 ∧ 0 ≤ L0 ∧ L0 < 4294967296 ∧
    IntKind.u64.wrap (IntKind.u64.wrap (IntKind.u64.wrap (V * 4294967296) + L0) - IntKind.u64.wrap (Q0 * Yv)) = Z ∧
    Q * 4294967296 + Q0 = ((hi : Int) * 18446744073709551616 + lo) / y ∧ Z / 2 ^ n = ((hi : Int) * 18446744073709551616 + lo) % y := by
  obtain ⟨n, e, n1, n2, b1, b2⟩ := zeros y (by omega) h3
  obtain ⟨k, hk⟩ : ∃ k, n + k = 64 := ⟨64 - n, by omega⟩
  obtain ⟨s1, s2, s3, s4⟩ := shifted hi lo y n k hk h2 hlo b2
  have hp0 : 0 < 2 ^ n := Nat.two_pow_pos n
  have hpp : 2 ^ n = 2 ^ (n - 32) * 4294967296 := by
    rw [show (4294967296 : Nat) = 2 ^ 32 from rfl, ← Nat.pow_add, show n - 32 + 32 = n by omega]
  have hcast : ((2 : Int) ^ n) = ((2 ^ n : Nat) : Int) := by simp
  have hYv : IntKind.u64.wrap ((y : Int) * 2 ^ n) = ((y * 2 ^ n : Nat) : Int) := by
    rw [IntKind.wrap_u64, hcast, ← Int.natCast_mul]; omega
  have hY : y * 2 ^ n = y * 2 ^ (n - 32) * 4294967296 := by rw [hpp, Nat.mul_assoc]
  generalize hYn : y * 2 ^ (n - 32) = Yn at *
  generalize hUn : hi * 2 ^ n + lo / 2 ^ k = Un at *
  generalize hLn : lo % 2 ^ k * 2 ^ n = Ln at *
  have hL : Ln < 18446744073709551616 := by
    have := s2
    rw [IntKind.wrap_u64] at this
    omega
  obtain ⟨Q, R, a1, a2, a3, a4, a5, a6, a7, a8, a9, a10⟩ := step (Un : Int) (Yn : Int) ((Ln : Int) / 4294967296) (by omega) (by omega) (by omega) (by omega) (by omega) (by omega)
  obtain ⟨Q0, R0, c1, c2, c3, c4, c5, c6, c7, c8, c9, c10⟩ := step (R * 4294967296 + (Ln : Int) / 4294967296) (Yn : Int) ((Ln : Int) % 4294967296) (by omega) (by omega) (by omega) (by omega) (by omega) (by omega)
  have fin : ((hi : Int) * 18446744073709551616 + lo) * ((2 ^ n : Nat) : Int) = (Q * 4294967296 + Q0) * ((y : Int) * ((2 ^ n : Nat) : Int)) + (R0 * 4294967296 + (Ln : Int) % 4294967296) := by
    have e1 : ((hi : Int) * 18446744073709551616 + lo) * ((2 ^ n : Nat) : Int) = (Un : Int) * 18446744073709551616 + Ln := by
      have h := congrArg (Nat.cast : Nat → Int) s4
      rw [Int.natCast_mul, Int.natCast_add, Int.natCast_mul, Int.natCast_add, Int.natCast_mul] at h
      exact h
    have e2 : (y : Int) * ((2 ^ n : Nat) : Int) = (Yn : Int) * 4294967296 := by
      have h := congrArg (Nat.cast : Nat → Int) hY
      rw [Int.natCast_mul, Int.natCast_mul] at h
      exact h
    rw [e1, e2, Int.add_mul]
    rw [show Q * 4294967296 * ((Yn : Int) * 4294967296) = Q * ((Yn : Int) * 4294967296) * 4294967296 from by rw [Int.mul_assoc, Int.mul_comm 4294967296, ← Int.mul_assoc]]
    generalize Q * ((Yn : Int) * 4294967296) = A at *
    generalize Q0 * ((Yn : Int) * 4294967296) = B at *
    omega
  have hYc : ((y * 2 ^ n : Nat) : Int) = (Yn : Int) * 4294967296 := by rw [hY]; omega
  have quot := unique hi lo y (2 ^ n) hp0 (by omega) (Q * 4294967296 + Q0) (R0 * 4294967296 + (Ln : Int) % 4294967296) fin c9 (by
    have : ((y : Int) * ((2 ^ n : Nat) : Int)) = ((y * 2 ^ n : Nat) : Int) := by rw [Int.natCast_mul]
    rw [this, hYc]; exact c10)
  have a7' := a7
  have c7' := c7
  refine ⟨n, k, ((y * 2 ^ n : Nat) : Int), (Yn : Int), (Un : Int), (Ln : Int), (Ln : Int) / 4294967296, (Ln : Int) % 4294967296, Q, Q * Yn, R * 4294967296 + (Ln : Int) / 4294967296, Q0, Q0 * Yn, R0 * 4294967296 + (Ln : Int) % 4294967296, e, n1, n2, by omega, by omega, by omega, hYv, ?_, ?_, s1, s2, rfl, ?_, by omega, by omega, ?_, a4, a5, ?_, by omega, by omega, by omega, by omega, ?_, a9, ?_, c4, c5, ?_, by omega, by omega, by omega, by omega, ?_, ?_, ?_⟩
  · rw [hY]; omega
  · rw [and_low32 _ (by omega) (by omega), hY]; omega
  · rw [and_low32 _ (by omega) (by omega)]
  · rw [Int.tdiv_eq_ediv_of_nonneg (by omega), a6, IntKind.wrap_u64]; omega
  · have h0 := Int.mul_nonneg a4 (show (0 : Int) ≤ (Yn : Int) by omega)
    rw [IntKind.wrap_u64]
    generalize Q * (Yn : Int) = A at *
    omega
  · rw [IntKind.wrap_u64, IntKind.wrap_u64, IntKind.wrap_u64, IntKind.wrap_u64, hYc]; exact a7'
  · rw [Int.tdiv_eq_ediv_of_nonneg a9, c6, IntKind.wrap_u64]; omega
  · have h0 := Int.mul_nonneg c4 (show (0 : Int) ≤ (Yn : Int) by omega)
    rw [IntKind.wrap_u64]
    generalize Q0 * (Yn : Int) = A at *
    omega
  · rw [IntKind.wrap_u64, IntKind.wrap_u64, IntKind.wrap_u64, IntKind.wrap_u64, hYc]; exact c7'
  · exact quot.1
  · rw [hcast]; exact quot.2
end Go.Proofs.YtemfhipofgafiaaGreatDoor.PlainDiv
