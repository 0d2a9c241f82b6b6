/-
  Two words divided by one: the arithmetic (no program in sight).
-/
import Derived.Test.YtbfhholefjngpaaWKnuth
import Derived.Laws.Bits64
namespace Go.Knuth
theorem div64 {hi lo K J : Nat} (hKJ : K * J = 18446744073709551616) (hJ : 0 < J) (hk : 0 < K) :
    (hi * 18446744073709551616 + lo) * K = ((hi * K + lo / J) * 4294967296 + lo * K % 18446744073709551616 / 4294967296) * 4294967296 + lo * K % 18446744073709551616 % 4294967296 := by
  have h1 : lo * K = (lo / J) * 18446744073709551616 + (lo % J) * K := by
    have h2 : lo = (lo / J) * J + lo % J := (Nat.div_add_mod' lo J).symm
    rw [← hKJ]
    have h3 : lo / J * (K * J) = lo / J * J * K := by rw [Nat.mul_assoc, Nat.mul_comm K J]
    rw [h3, ← Nat.add_mul, ← h2]
  have h4 : (lo % J) * K < 18446744073709551616 := by
    rw [← hKJ, Nat.mul_comm K J]
    exact Nat.mul_lt_mul_of_pos_right (Nat.mod_lt _ hJ) hk
  have h5 : lo * K % 18446744073709551616 = (lo % J) * K := by
    rw [h1]
    omega
  rw [h5, Nat.add_mul, h1]
  have h6 : hi * 18446744073709551616 * K = hi * K * 18446744073709551616 := by rw [Nat.mul_assoc, Nat.mul_comm 18446744073709551616 K, ← Nat.mul_assoc]
  rw [h6]
  generalize hi * K = A
  generalize lo % J * K = B
  omega
theorem two_digits {V Y u un1 un0 B : Nat} (hY : 0 < Y) (h : V = (u * B + un1) * B + un0) :
    V / Y = (u * B + un1) / Y * B + ((u * B + un1) % Y * B + un0) / Y ∧ V % Y = ((u * B + un1) % Y * B + un0) % Y := by
  have h1 := Nat.div_add_mod' (u * B + un1) Y
  have h2 : V = ((u * B + un1) % Y * B + un0) + Y * ((u * B + un1) / Y * B) := by
    rw [h]
    have e1 : (u * B + un1) * B = (u * B + un1) / Y * Y * B + (u * B + un1) % Y * B := by rw [← Nat.add_mul, h1]
    have e2 : (u * B + un1) / Y * Y * B = Y * ((u * B + un1) / Y * B) := by rw [Nat.mul_comm _ Y, Nat.mul_assoc]
    rw [e1, e2]
    omega
  subst h2
  exact ⟨(Nat.add_mul_div_left _ _ hY).trans (Nat.add_comm _ _), Nat.add_mul_mod_self_left _ _ _⟩
theorem test {q y0 r d : Nat} (hq : q ≤ 4294967297) (hy0 : y0 < 4294967296) (hr : r < 4294967296) (hd : d < 4294967296) :
    (decide ((q : Int) ≥ 4294967296) || decide (IntKind.u64.wrap ((q : Int) * (y0 : Int)) > IntKind.u64.wrap (IntKind.u64.wrap (4294967296 * (r : Int)) + (d : Int)))) = decide (4294967296 ≤ q ∨ 4294967296 * r + d < q * y0) := by
  rw [← Bool.decide_or]
  apply decide_eq_decide.mpr
  by_cases h : 4294967296 ≤ q
  · constructor
    · intro _; exact .inl h
    · intro _; exact .inl (by omega)
  · have h1 : q * y0 ≤ 4294967296 * 4294967296 := Nat.mul_le_mul (by omega) (by omega)
    have h2 : q * y0 < 4294967296 * 4294967296 := Nat.lt_of_le_of_lt (Nat.mul_le_mul_left q (Nat.le_of_lt_succ (Nat.lt_of_lt_of_le hy0 (by decide : 4294967296 ≤ 4294967295 + 1)))) (by omega)
    rw [← Int.natCast_mul, IntKind.wrap_u64, IntKind.wrap_u64, IntKind.wrap_u64]
    generalize q * y0 = A at *
    omega
theorem rest {U d Y : Nat} (h : 0 < Y) (hY : Y < 18446744073709551616) :
    IntKind.u64.wrap (IntKind.u64.wrap (IntKind.u64.wrap ((U : Int) * 4294967296) + (d : Int)) - IntKind.u64.wrap ((((U * 4294967296 + d) / Y : Nat) : Int) * (Y : Int))) = (((U * 4294967296 + d) % Y : Nat) : Int) := by
  have h1 := Nat.div_add_mod' (U * 4294967296 + d) Y
  have h2 := Nat.mod_lt (U * 4294967296 + d) h
  rw [← Int.natCast_mul (_ / _), IntKind.wrap_u64, IntKind.wrap_u64, IntKind.wrap_u64, IntKind.wrap_u64]
  generalize (U * 4294967296 + d) / Y * Y = A at *
  generalize (U * 4294967296 + d) % Y = B at *
  omega
theorem quo_lt {R d Y : Nat} (h : R < Y) (hd : d < 4294967296) : (R * 4294967296 + d) / Y < 4294967296 := by
  rw [Nat.div_lt_iff_lt_mul (by omega)]
  omega
theorem close {hi lo K Y y U un1 un0 : Nat} (hK : 0 < K) (hYe : Y = y * K) (h : hi < y) (hl : lo < 18446744073709551616) (hU : (hi * 18446744073709551616 + lo) * K = (U * 4294967296 + un1) * 4294967296 + un0)
    {Q1 Q2 R1 R2 : Nat} (q1 : Q1 = (U * 4294967296 + un1) / Y) (e1 : R1 = (U * 4294967296 + un1) % Y) (q2 : Q2 = (R1 * 4294967296 + un0) / Y) (e2 : R2 = (R1 * 4294967296 + un0) % Y) :
    Q1 * 4294967296 + Q2 = (hi * 18446744073709551616 + lo) / y ∧ R2 / K = (hi * 18446744073709551616 + lo) % y ∧ (hi * 18446744073709551616 + lo) / y < 18446744073709551616 := by
  have hy : 0 < y := by omega
  have hY : 0 < Y := by rw [hYe]; exact Nat.mul_pos hy hK
  have hT := two_digits hY hU
  subst q2 e2
  subst q1 e1
  rw [← hT.1, ← hT.2, hYe, Nat.mul_div_mul_right _ _ hK, Nat.mul_mod_mul_right, Nat.mul_div_cancel _ hK]
  refine ⟨rfl, rfl, ?_⟩
  rw [Nat.div_lt_iff_lt_mul hy]
  omega
end Go.Knuth
