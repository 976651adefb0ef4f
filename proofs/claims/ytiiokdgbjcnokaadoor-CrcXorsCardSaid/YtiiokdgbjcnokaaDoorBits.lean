/- The lowest bit of a register: x and its negative tell it, x less one takes it away; what the multiplication's table tells. Plain mathematics. -/
import Derived.Test.YtiiokdgbjcnokaaDoorMath
namespace Go.Proofs.YtiiokdgbjcnokaaDoor.CrcMath

theorem odd_part : ∀ n : Nat, 0 < n → ∃ i k, n = 2 ^ (i + 1) * k + 2 ^ i := by
  intro n
  induction n using Nat.strongRecOn with
  | ind n ih =>
    intro h
    by_cases o : n % 2 = 1
    · exact ⟨0, n / 2, by simp; omega⟩
    · obtain ⟨i, k, e⟩ := ih (n / 2) (by omega) (by omega)
      refine ⟨i + 1, k, ?_⟩
      have : n = 2 * (n / 2) := by omega
      rw [this, e, Nat.mul_add, ← Nat.mul_assoc, Nat.pow_succ 2 (i + 1), Nat.pow_succ 2 i]
      simp only [Nat.mul_comm]

theorem tb_n (i k j : Nat) : (2 ^ (i + 1) * k + 2 ^ i).testBit j = if j < i + 1 then decide (i = j) else k.testBit (j - (i + 1)) := by
  rw [Nat.testBit_two_pow_mul_add _ (Nat.pow_lt_pow_right (by decide) (by omega)), Nat.testBit_two_pow]
theorem tb_p (i k j : Nat) : (2 ^ (i + 1) * k + (2 ^ i - 1)).testBit j = if j < i + 1 then decide (j < i) else k.testBit (j - (i + 1)) := by
  have h : 2 ^ i < 2 ^ (i + 1) := Nat.pow_lt_pow_right (by decide) (by omega)
  rw [Nat.testBit_two_pow_mul_add _ (by omega), Nat.testBit_two_pow_sub_one]

theorem low_bit (y : R) (h : y ≠ 0#32) : ∃ i, i < 32 ∧ y &&& -y = 1#32 <<< i ∧ y = (y &&& (y - 1#32)) ^^^ (1#32 <<< i) ∧ (y &&& (y - 1#32)).toNat < y.toNat := by
  have hy : y.toNat < 4294967296 := y.isLt
  have h0 : 0 < y.toNat := by
    apply Nat.pos_of_ne_zero
    intro e
    exact h (BitVec.eq_of_toNat_eq (by simpa using e))
  obtain ⟨i, k, e⟩ := odd_part y.toNat h0
  have hi2 : 2 ^ i ≤ y.toNat := by rw [e]; omega
  have hi : i < 32 := by
    apply Nat.lt_of_not_le
    intro h32
    have : 2 ^ 32 ≤ 2 ^ i := Nat.pow_le_pow_right (by decide) h32
    omega
  have hp : 0 < 2 ^ i := Nat.pow_pos (by decide)
  have ep : (y - 1#32).toNat = 2 ^ (i + 1) * k + (2 ^ i - 1) := by
    rw [BitVec.toNat_sub]
    have : (1#32 : R).toNat = 1 := by decide
    rw [this]
    omega
  have bn : ∀ j, y.getLsbD j = if j < i + 1 then decide (i = j) else k.testBit (j - (i + 1)) := by
    intro j
    show y.toNat.testBit j = _
    rw [e, tb_n]
  have bp : ∀ j, (y - 1#32).getLsbD j = if j < i + 1 then decide (j < i) else k.testBit (j - (i + 1)) := by
    intro j
    show (y - 1#32).toNat.testBit j = _
    rw [ep, tb_p]
  have bneg : ∀ j, j < 32 → (-y).getLsbD j = !(y - 1#32).getLsbD j := by
    intro j hj
    show (-y).toNat.testBit j = !((y - 1#32).toNat.testBit j)
    have e1 : (-y).toNat = 2 ^ 32 - ((y - 1#32).toNat + 1) := by
      rw [BitVec.toNat_neg, ep]
      omega
    rw [e1, Nat.testBit_two_pow_sub_succ (by rw [ep]; omega)]
    simp [hj]
  have b1 : ∀ j, j < 32 → (1#32 <<< i).getLsbD j = decide (i = j) := by
    intro j hj
    rw [BitVec.getLsbD_shiftLeft]
    by_cases q : j < i
    · simp [q]; omega
    · simp only [hj, q, decide_true, decide_false, Bool.not_false, Bool.true_and]
      show (1#32 : R).toNat.testBit (j - i) = _
      rw [show (1#32 : R).toNat = 2 ^ 0 by decide, Nat.testBit_two_pow]
      congr 1
      apply propext
      omega
  refine ⟨i, hi, ?_, ?_, ?_⟩
  · apply BitVec.eq_of_getLsbD_eq
    intro j hj
    rw [BitVec.getLsbD_and, bneg j hj, bn, bp, b1 j hj]
    by_cases q : j < i + 1
    · rw [if_pos q, if_pos q]
      by_cases a : i = j
      · subst a; simp
      · simp [a]
    · rw [if_neg q, if_neg q]
      have : ¬ i = j := by omega
      simp [this]
  · apply BitVec.eq_of_getLsbD_eq
    intro j hj
    rw [BitVec.getLsbD_xor, BitVec.getLsbD_and, bn, bp, b1 j hj]
    by_cases q : j < i + 1
    · rw [if_pos q, if_pos q]
      by_cases a : i = j
      · subst a; simp
      · simp [a]
    · rw [if_neg q, if_neg q]
      have : ¬ i = j := by omega
      simp [this]
  · rw [BitVec.toNat_and]
    have := @Nat.and_le_right y.toNat (y - 1#32).toNat
    rw [ep] at this ⊢
    omega

theorem one_shift (i : Nat) (h : i < 32) : (1#32 <<< i : R).toNat = 2 ^ i := by
  rw [BitVec.toNat_shiftLeft, Nat.shiftLeft_eq]
  have : 2 ^ i < 2 ^ 32 := Nat.pow_lt_pow_right (by decide) h
  have e : (1#32 : R).toNat = 1 := by decide
  rw [e, Nat.one_mul, Nat.mod_eq_of_lt this]

/-- The table of the multiplication. -/
def deB : List Int := [0, 1, 28, 2, 29, 14, 24, 3, 30, 22, 20, 15, 25, 17, 4, 8, 31, 27, 13, 23, 21, 19, 16, 7, 26, 12, 18, 6, 11, 5, 10, 9]
theorem deB_tells : ∀ i : Fin 32, deB.getD ((2 ^ i.val) * 125613361 % 4294967296 / 134217728) 0 = (i.val : Int) ∧ (2 ^ i.val) * 125613361 % 4294967296 / 134217728 < 32 := by decide

end Go.Proofs.YtiiokdgbjcnokaaDoor.CrcMath
