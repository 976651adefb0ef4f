/- Floats of 64 bits, as whole numbers: what a rounded number stands for, to within one part in 2^30. Conditions: what each theorem says. -/
import Derived.Laws.FloatArith
namespace Go.Proofs.Ytcjeegomonegpaa.Fl
open Ieee
set_option linter.unusedVariables false
set_option linter.unusedSimpArgs false
/-- k * 2^e, in units of 2^-400. -/
def V (k : Nat) (e : Int) : Nat := k * 2 ^ (e + 400).toNat
theorem V_shift (k d : Nat) (e : Int) (he : -400 ≤ e) : V (k * 2 ^ d) e = V k (e + d) := by
  unfold V
  rw [show (e + d + 400).toNat = d + (e + 400).toNat by omega, Nat.pow_add, Nat.mul_assoc]
theorem V_pos {k : Nat} (e : Int) (h : 0 < k) : 0 < V k e := Nat.mul_pos h (Nat.two_pow_pos _)
theorem unit_mul (n : Nat) : V n 0 = n * V 1 0 := by
  unfold V
  rw [Nat.one_mul]
theorem V_mono {a b : Nat} (e : Int) (h : a ≤ b) : V a e ≤ V b e := Nat.mul_le_mul_right _ h
theorem V_add (a b : Nat) (e : Int) : V (a + b) e = V a e + V b e := Nat.add_mul _ _ _
theorem V_mul (c k : Nat) (e : Int) : V (c * k) e = c * V k e := Nat.mul_assoc _ _ _
theorem V_le {a b c c' : Nat} (e : Int) (h : a * c ≤ b * c') : V a e * c ≤ V b e * c' := by
  unfold V
  rw [Nat.mul_right_comm, Nat.mul_right_comm b]
  exact Nat.mul_le_mul_right _ h
theorem near1g {kd mag d c : Nat} (c2 : kd * 2 ≤ mag * 2 + d) (hd : d * c ≤ mag) : kd * (2 * c) ≤ mag * (2 * c + 1) := by
  have h1 : kd * 2 * c ≤ (mag * 2 + d) * c := Nat.mul_le_mul_right _ c2
  rw [Nat.add_mul] at h1
  rw [← Nat.mul_assoc, Nat.mul_add, ← Nat.mul_assoc, Nat.mul_one]
  exact Nat.le_trans h1 (Nat.add_le_add_left hd _)
theorem near2g {kd mag d c : Nat} (c1 : mag * 2 ≤ kd * 2 + d) (hd : d * c ≤ mag) : mag * (2 * c - 1) ≤ kd * (2 * c) := by
  have h1 : mag * 2 * c ≤ (kd * 2 + d) * c := Nat.mul_le_mul_right _ c1
  rw [Nat.add_mul] at h1
  rw [Nat.mul_sub, Nat.mul_one, ← Nat.mul_assoc, ← Nat.mul_assoc]
  omega
theorem near1 {kd mag d : Nat} (c2 : kd * 2 ≤ mag * 2 + d) (hd : d * 4503599627370496 ≤ mag) : kd * 1073741824 ≤ mag * 1073741825 := near1g (c := 536870912) c2 (Nat.le_trans (Nat.mul_le_mul_left d (by decide)) hd)
theorem near2 {kd mag d : Nat} (c1 : mag * 2 ≤ kd * 2 + d) (hd : d * 4503599627370496 ≤ mag) : mag * 1073741823 ≤ kd * 1073741824 := near2g (c := 536870912) c1 (Nat.le_trans (Nat.mul_le_mul_left d (by decide)) hd)
/-- What is read of a rung. -/
theorem read_rung (E kept : Nat) (hE : E ≤ 2000) (h1 : 4503599627370496 ≤ kept) (h2 : kept ≤ 9007199254740992) :
    ∃ k e, double.read (E * 4503599627370496 + kept) = .number false k e ∧ (4503599627370496 ≤ k ∧ k < 9007199254740992) ∧ (-1074 : Int) + E ≤ e ∧ e ≤ (-1074 : Int) + E + 1 ∧ (E ≥ 674 → V k e = V kept ((-1074 : Int) + E)) := by
  have b : double.binade = 4503599627370496 := by decide
  have s : double.signWeight = 9223372036854775808 := by decide
  have i : double.infRung = 9218868437227405312 := by decide
  have l : double.leastPlace = -1074 := by decide
  unfold Format.read
  rw [b, s, i, l]
  have e1 : (E * 4503599627370496 + kept) % 9223372036854775808 = E * 4503599627370496 + kept := Nat.mod_eq_of_lt (by omega)
  have e2 : (E * 4503599627370496 + kept) / 9223372036854775808 = 0 := Nat.div_eq_of_lt (by omega)
  simp only [e1, e2]
  rw [if_neg (by omega), if_pos (by omega)]
  by_cases hk : kept < 9007199254740992
  · refine ⟨_, _, rfl, ⟨by omega, by omega⟩, by omega, by omega, fun _ => ?_⟩
    rw [show 4503599627370496 + (E * 4503599627370496 + kept) % 4503599627370496 = kept by omega, show (E * 4503599627370496 + kept) / 4503599627370496 - 1 = E by omega]
  · have : kept = 9007199254740992 := by omega
    subst this
    refine ⟨_, _, rfl, ⟨by omega, by omega⟩, by omega, by omega, fun hE' => ?_⟩
    rw [show 4503599627370496 + (E * 4503599627370496 + 9007199254740992) % 4503599627370496 = 4503599627370496 by omega, show (E * 4503599627370496 + 9007199254740992) / 4503599627370496 - 1 = E + 1 by omega,
      show (9007199254740992 : Nat) = 4503599627370496 * 2 ^ 1 by decide, V_shift _ 1 _ (by omega), show ((-1074 : Int) + ((E + 1 : Nat) : Int)) = -1074 + (E : Int) + ((1 : Nat) : Int) by omega]
/-- Cutting to the nearest. -/
theorem cut_even (n drop lg : Nat) (h1 : 2 ^ lg ≤ n) (h2 : n < 2 ^ (lg + 1)) (hl : n.log2 = lg) (hd : drop ≤ lg) :
    n * 2 ≤ Toward.even.cut false n drop * 2 ^ drop * 2 + 2 ^ drop ∧ Toward.even.cut false n drop * 2 ^ drop * 2 ≤ n * 2 + 2 ^ drop ∧ n / 2 ^ drop ≤ Toward.even.cut false n drop ∧ Toward.even.cut false n drop ≤ n / 2 ^ drop + 1 ∧ (drop = 0 → Toward.even.cut false n drop = n) := by
  unfold Toward.cut
  simp only [hl]
  rw [show min drop (lg + 2) = drop by omega, Nat.shiftLeft_eq, Nat.one_mul]
  have hpos := Nat.two_pow_pos drop
  have hdm := Nat.div_add_mod n (2 ^ drop)
  have hml := Nat.mod_lt n hpos
  generalize hq : n / 2 ^ drop = q at hdm
  generalize hr : n % 2 ^ drop = r at hdm hml
  generalize hp : 2 ^ drop = p at hdm hml hpos
  have hpq : p * q = q * p := Nat.mul_comm _ _
  by_cases hb : (decide (p < 2 * r) || (p == 2 * r && q % 2 == 1)) = true
  · rw [hb]
    simp only [Bool.toNat_true]
    have h2r : p ≤ 2 * r := by
      simp at hb
      omega
    rw [Nat.add_mul, Nat.one_mul]
    refine ⟨by omega, by omega, by omega, by omega, fun h0 => ?_⟩
    subst h0
    simp at hp
    omega
  · have hb' : (decide (p < 2 * r) || (p == 2 * r && q % 2 == 1)) = false := by simpa using hb
    rw [hb']
    simp only [Bool.toNat_false, Nat.add_zero]
    have h2r : 2 * r ≤ p := by
      simp at hb
      omega
    refine ⟨by omega, by omega, by omega, by omega, fun h0 => ?_⟩
    subst h0
    simp at hp
    subst hp
    omega
/-- The nearest word stands for the number to within one part in 2^30. -/
theorem nearest_near (mag : Nat) (place : Int) (h0 : 0 < mag) (h1 : -300 ≤ place) (h2 : place ≤ 300) (h3 : mag.log2 ≤ 300) (h4 : -340 ≤ place + mag.log2 - 52) :
    ∃ k e, double.read (double.nearest false mag place) = .number false k e ∧ (4503599627370496 ≤ k ∧ k < 9007199254740992) ∧ place + mag.log2 - 52 ≤ e ∧ e ≤ place + mag.log2 - 51 ∧ V k e * 1073741824 ≤ V mag place * 1073741825 ∧ V mag place * 1073741823 ≤ V k e * 1073741824 := by
  have hlo := Nat.log2_self_le (Nat.pos_iff_ne_zero.1 h0)
  have hhi := Nat.lt_log2_self (n := mag)
  generalize hlg : mag.log2 = lg at hlo hhi h3 h4 ⊢
  have l : double.leastPlace = -1074 := by decide
  have b : double.binade = 4503599627370496 := by decide
  have i : double.infRung = 9218868437227405312 := by decide
  have fb : double.fractionBits = 52 := rfl
  unfold Format.nearest
  rw [if_neg (by omega)]
  simp only [hlg, l, b, i, fb]
  obtain ⟨E, hE⟩ : ∃ E : Nat, (E : Int) = place + lg - 52 + 1074 := ⟨(place + lg - 52 + 1074).toNat, by omega⟩
  rw [show max (place + (lg : Int) - ((52 : Nat) : Int)) (-1074) = place + lg - 52 by omega]
  rw [show (place + (lg : Int) - 52 - -1074).toNat = E by omega]
  have hw : ∀ r, double.word false r = r := fun r => by simp [Format.word]
  rw [hw]
  by_cases hlg52 : lg ≤ 52
  · rw [show (place - (place + (lg : Int) - 52)).toNat = 52 - lg by omega, show (place + (lg : Int) - 52 - place).toNat = 0 by omega, Nat.shiftLeft_eq]
    have hp : 2 ^ lg * 2 ^ (52 - lg) = 4503599627370496 := by rw [← Nat.pow_add, show lg + (52 - lg) = 52 by omega]
    have hp1 : 2 ^ (lg + 1) * 2 ^ (52 - lg) = 9007199254740992 := by rw [← Nat.pow_add, show lg + 1 + (52 - lg) = 53 by omega]
    have hk1 : 4503599627370496 ≤ mag * 2 ^ (52 - lg) := by rw [← hp]; exact Nat.mul_le_mul_right _ hlo
    have hk2 : mag * 2 ^ (52 - lg) < 9007199254740992 := by rw [← hp1]; exact Nat.mul_lt_mul_of_pos_right hhi (Nat.two_pow_pos _)
    have hc : Toward.even.cut false (mag * 2 ^ (52 - lg)) 0 = mag * 2 ^ (52 - lg) := by
      simp [Toward.cut, Nat.mod_one]
    rw [hc, Nat.min_eq_left (by omega)]
    obtain ⟨k, e, hr, hk, he1, he2, hV⟩ := read_rung E _ (by omega) hk1 (by omega)
    have hV2 : V k e = V mag place := by
      rw [hV (by omega), show (-1074 : Int) + E = place + lg - 52 by omega, V_shift _ _ _ (by omega)]
      congr 1
      omega
    exact ⟨k, e, hr, hk, by omega, by omega, by rw [hV2]; exact Nat.mul_le_mul_left _ (by omega), by rw [hV2]; exact Nat.mul_le_mul_left _ (by omega)⟩
  · rw [show (place - (place + (lg : Int) - 52)).toNat = 0 by omega, show (place + (lg : Int) - 52 - place).toNat = lg - 52 by omega]
    simp only [Nat.shiftLeft_zero]
    obtain ⟨c1, c2, c3, c4, -⟩ := cut_even mag (lg - 52) lg hlo hhi hlg (by omega)
    have hp : 2 ^ lg = 4503599627370496 * 2 ^ (lg - 52) := by
      rw [show (4503599627370496 : Nat) = 2 ^ 52 by decide, ← Nat.pow_add, show 52 + (lg - 52) = lg by omega]
    have hp1 : 2 ^ (lg + 1) = 9007199254740992 * 2 ^ (lg - 52) := by
      rw [show (9007199254740992 : Nat) = 2 ^ 53 by decide, ← Nat.pow_add, show 53 + (lg - 52) = lg + 1 by omega]
    have q1 : 4503599627370496 ≤ mag / 2 ^ (lg - 52) := by
      rw [Nat.le_div_iff_mul_le (Nat.two_pow_pos _), ← hp]
      exact hlo
    have q2 : mag / 2 ^ (lg - 52) < 9007199254740992 := by
      rw [Nat.div_lt_iff_lt_mul (Nat.two_pow_pos _), ← hp1]
      exact hhi
    generalize Toward.even.cut false mag (lg - 52) = kept at c1 c2 c3 c4
    rw [Nat.min_eq_left (by omega)]
    obtain ⟨k, e, hr, hk, he1, he2, hV⟩ := read_rung E kept (by omega) (by omega) (by omega)
    have hV2 : V k e = V (kept * 2 ^ (lg - 52)) place := by
      rw [hV (by omega), show (-1074 : Int) + E = place + lg - 52 by omega, V_shift _ _ _ (by omega)]
      congr 1
      omega
    have hd : 2 ^ (lg - 52) * 4503599627370496 ≤ mag := by rw [Nat.mul_comm, ← hp]; exact hlo
    generalize 2 ^ (lg - 52) = d at c1 c2 hd hV2
    generalize kept * d = kd at c1 c2 hV2
    refine ⟨k, e, hr, hk, by omega, by omega, ?_, ?_⟩
    · rw [hV2]
      exact V_le place (near1 c2 hd)
    · rw [hV2]
      exact V_le place (near2 c1 hd)
/-- A whole number below 2^53 is a float, exactly. -/
theorem nearest_exact (mag : Nat) (place : Int) (h0 : 0 < mag) (h1 : -300 ≤ place) (h2 : place ≤ 300) (h3 : mag.log2 ≤ 52) :
    double.read (double.nearest false mag place) = .number false (mag * 2 ^ (52 - mag.log2)) (place + mag.log2 - 52) := by
  have hlo := Nat.log2_self_le (Nat.pos_iff_ne_zero.1 h0)
  have hhi := Nat.lt_log2_self (n := mag)
  generalize hlg : mag.log2 = lg at hlo hhi h3 ⊢
  have l : double.leastPlace = -1074 := by decide
  have b : double.binade = 4503599627370496 := by decide
  have i : double.infRung = 9218868437227405312 := by decide
  have s : double.signWeight = 9223372036854775808 := by decide
  have fb : double.fractionBits = 52 := rfl
  unfold Format.nearest
  rw [if_neg (by omega)]
  simp only [hlg, l, b, i, fb]
  obtain ⟨E, hE⟩ : ∃ E : Nat, (E : Int) = place + lg - 52 + 1074 := ⟨(place + lg - 52 + 1074).toNat, by omega⟩
  rw [show max (place + (lg : Int) - ((52 : Nat) : Int)) (-1074) = place + lg - 52 by omega]
  rw [show (place + (lg : Int) - 52 - -1074).toNat = E by omega]
  have hw : ∀ r, double.word false r = r := fun r => by simp [Format.word]
  rw [hw]
  rw [show (place - (place + (lg : Int) - 52)).toNat = 52 - lg by omega, show (place + (lg : Int) - 52 - place).toNat = 0 by omega, Nat.shiftLeft_eq]
  have hp : 2 ^ lg * 2 ^ (52 - lg) = 4503599627370496 := by rw [← Nat.pow_add, show lg + (52 - lg) = 52 by omega]
  have hp1 : 2 ^ (lg + 1) * 2 ^ (52 - lg) = 9007199254740992 := by rw [← Nat.pow_add, show lg + 1 + (52 - lg) = 53 by omega]
  have hk1 : 4503599627370496 ≤ mag * 2 ^ (52 - lg) := by rw [← hp]; exact Nat.mul_le_mul_right _ hlo
  have hk2 : mag * 2 ^ (52 - lg) < 9007199254740992 := by rw [← hp1]; exact Nat.mul_lt_mul_of_pos_right hhi (Nat.two_pow_pos _)
  have hc : Toward.even.cut false (mag * 2 ^ (52 - lg)) 0 = mag * 2 ^ (52 - lg) := by
    simp [Toward.cut, Nat.mod_one]
  rw [hc, Nat.min_eq_left (by omega)]
  generalize mag * 2 ^ (52 - lg) = kept at hk1 hk2
  unfold Format.read
  rw [b, s, i, l]
  have e1 : (E * 4503599627370496 + kept) % 9223372036854775808 = E * 4503599627370496 + kept := Nat.mod_eq_of_lt (by omega)
  have e2 : (E * 4503599627370496 + kept) / 9223372036854775808 = 0 := Nat.div_eq_of_lt (by omega)
  simp only [e1, e2]
  rw [if_neg (by omega), if_pos (by omega)]
  rw [show 4503599627370496 + (E * 4503599627370496 + kept) % 4503599627370496 = kept by omega, show (E * 4503599627370496 + kept) / 4503599627370496 - 1 = E by omega, show (-1074 : Int) + (E : Int) = place + lg - 52 by omega]
  rfl
/-- The float of a whole number. -/
def mI (n : Nat) : Nat := n * 2 ^ (52 - n.log2)
def eI (n : Nat) : Int := (n.log2 : Int) - 52
theorem read_int (n : Nat) (h0 : 0 < n) (h1 : n ≤ 65536) : double.read (floatOfInt .f64 (n : Int)) = .number false (mI n) (eI n) := by
  have hl : n.log2 ≤ 16 := by
    have := Nat.log2_self_le (Nat.pos_iff_ne_zero.1 h0)
    by_cases h : n.log2 ≤ 16
    · exact h
    · have h2 : 2 ^ 17 ≤ 2 ^ n.log2 := Nat.pow_le_pow_right (by omega) (by omega)
      omega
  have e : floatOfInt .f64 (n : Int) = double.nearest false n 0 := by
    have h : decide ((n : Int) < 0) = false := by simp
    show double.nearest (decide ((n : Int) < 0)) (n : Int).natAbs 0 = _
    rw [h]
    rfl
  rw [e, nearest_exact n 0 h0 (by omega) (by omega) (by omega)]
  unfold mI eI
  rw [show (0 : Int) + (n.log2 : Int) - 52 = (n.log2 : Int) - 52 by omega]
theorem mI_bounds (n : Nat) (h0 : 0 < n) (h1 : n ≤ 65536) : 4503599627370496 ≤ mI n ∧ mI n < 9007199254740992 ∧ -52 ≤ eI n ∧ eI n ≤ -36 ∧ V (mI n) (eI n) = V n 0 := by
  have hlo := Nat.log2_self_le (Nat.pos_iff_ne_zero.1 h0)
  have hhi := Nat.lt_log2_self (n := n)
  have hl : n.log2 ≤ 16 := by
    by_cases h : n.log2 ≤ 16
    · exact h
    · have h2 : 2 ^ 17 ≤ 2 ^ n.log2 := Nat.pow_le_pow_right (by omega) (by omega)
      omega
  unfold mI eI
  generalize n.log2 = lg at hlo hhi hl
  have hp : 2 ^ lg * 2 ^ (52 - lg) = 4503599627370496 := by rw [← Nat.pow_add, show lg + (52 - lg) = 52 by omega]
  have hp1 : 2 ^ (lg + 1) * 2 ^ (52 - lg) = 9007199254740992 := by rw [← Nat.pow_add, show lg + 1 + (52 - lg) = 53 by omega]
  refine ⟨by rw [← hp]; exact Nat.mul_le_mul_right _ hlo, by rw [← hp1]; exact Nat.mul_lt_mul_of_pos_right hhi (Nat.two_pow_pos _), by omega, by omega, ?_⟩
  rw [V_shift _ _ _ (by omega), show (lg : Int) - 52 + ((52 - lg : Nat) : Int) = 0 by omega]
theorem rel1 {A B n c d : Nat} (hd : d = c + 1) (h : A ≤ B + n) (hn : n * c ≤ B) : A * c ≤ B * d := by
  have := Nat.mul_le_mul_right c h
  rw [Nat.add_mul] at this
  rw [hd, Nat.mul_add, Nat.mul_one]
  omega
theorem rel2 {A B n c d : Nat} (hd : d + 1 = c) (h : B ≤ A + n) (hn : n * c ≤ B) : B * d ≤ A * c := by
  have := Nat.mul_le_mul_right c h
  rw [Nat.add_mul] at this
  have h2 : B * c = B * d + B := by rw [← hd, Nat.mul_add, Nat.mul_one]
  omega
theorem rel0 {n m p c : Nat} (hn : n < 2 * p) (hm : p ≤ m) (hc : c ≤ 4 * p) : n * c ≤ 2 * (m * (4 * p)) := by
  have h1 : n * c ≤ 2 * p * (4 * p) := Nat.mul_le_mul (by omega) hc
  have h2 : 2 * (p * (4 * p)) ≤ 2 * (m * (4 * p)) := Nat.mul_le_mul_left _ (Nat.mul_le_mul_right _ hm)
  rw [← Nat.mul_assoc] at h2
  exact Nat.le_trans h1 h2
theorem quot_eq (m n : Nat) (i j : Int) (hm : m.log2 = 52) (hn : n.log2 = 52) (hn0 : ¬ n = 0) :
    (Datum.number false m i).quotient 54 (.number false n j) = some (.number false (2 * (m * (4 * 4503599627370496) / n) + (m * (4 * 4503599627370496) % n != 0).toNat) (i - j - 55)) := by
  have h54 : m <<< 54 = m * (4 * 4503599627370496) := by rw [Nat.shiftLeft_eq]
  unfold Datum.quotient
  simp only [hm, hn]
  rw [if_neg hn0, show 54 + 52 - 52 = 54 from rfl, h54, show i - j - ((54 : Nat) : Int) - 1 = i - j - 55 by omega]
  rfl
theorem log2_of {m k : Nat} (h0 : m ≠ 0) (h1 : 2 ^ k ≤ m) (h2 : m < 2 ^ (k + 1)) : m.log2 = k := (Nat.log2_eq_iff h0).2 ⟨h1, h2⟩
theorem log2_52 {m : Nat} (h1 : 4503599627370496 ≤ m) (h2 : m < 9007199254740992) : m.log2 = 52 := log2_of (by omega) (by simpa using h1) (by simpa using h2)
theorem quot_rel {m n p : Nat} (hm1 : p ≤ m) (hm2 : m < 2 * p) (hn1 : p ≤ n) (hn2 : n < 2 * p) :
    4 * p ≤ 2 * (m * (4 * p) / n) + (m * (4 * p) % n != 0).toNat ∧ 2 * (m * (4 * p) / n) + (m * (4 * p) % n != 0).toNat < 16 * p ∧
    (2 * (m * (4 * p) / n) + (m * (4 * p) % n != 0).toNat) * n ≤ 2 * (m * (4 * p)) + n ∧ 2 * (m * (4 * p)) ≤ (2 * (m * (4 * p) / n) + (m * (4 * p) % n != 0).toNat) * n + n := by
  have hn0 : 0 < n := by omega
  have hdm := Nat.div_add_mod (m * (4 * p)) n
  have hml := Nat.mod_lt (m * (4 * p)) hn0
  have hq1 : 2 * p ≤ m * (4 * p) / n := by
    rw [Nat.le_div_iff_mul_le hn0]
    have a1 : 2 * p * n ≤ 2 * p * (2 * p) := Nat.mul_le_mul_left _ (by omega)
    have a2 : p * (4 * p) ≤ m * (4 * p) := Nat.mul_le_mul_right _ hm1
    have a3 : 2 * p * (2 * p) = p * (4 * p) := by rw [Nat.mul_assoc, Nat.mul_left_comm 2 p, ← Nat.mul_assoc 2 2]
    omega
  have hq2 : m * (4 * p) / n < 8 * p := by
    rw [Nat.div_lt_iff_lt_mul hn0]
    have a1 : 8 * p * p ≤ 8 * p * n := Nat.mul_le_mul_left _ hn1
    have a2 : m * (4 * p) < 2 * p * (4 * p) := Nat.mul_lt_mul_of_pos_right hm2 (by omega)
    have a3 : 2 * p * (4 * p) = 8 * p * p := by rw [Nat.mul_assoc, Nat.mul_left_comm p 4, ← Nat.mul_assoc 2 4, Nat.mul_assoc 8]
    omega
  generalize m * (4 * p) = M at hdm hml hq1 hq2
  generalize M / n = q at hdm hq1 hq2
  generalize M % n = r at hdm hml
  by_cases hr : r = 0
  · subst hr
    simp only [bne_self_eq_false, Bool.toNat_false, Nat.add_zero] at hdm ⊢
    have : 2 * q * n = 2 * M := by rw [← hdm, Nat.mul_assoc, Nat.mul_comm q n]
    exact ⟨by omega, by omega, by omega, by omega⟩
  · have hb : (r != 0) = true := by simpa using hr
    rw [hb]
    simp only [Bool.toNat_true]
    have : (2 * q + 1) * n = 2 * (n * q) + n := by rw [Nat.add_mul, Nat.one_mul, Nat.mul_assoc, Nat.mul_comm q n]
    rw [this]
    exact ⟨by omega, by omega, by omega, by omega⟩
theorem quot (m n : Nat) (i j : Int) (hm1 : 4503599627370496 ≤ m) (hm2 : m < 9007199254740992) (hn1 : 4503599627370496 ≤ n) (hn2 : n < 9007199254740992) :
    ∃ mag, (Datum.number false m i).quotient 54 (.number false n j) = some (.number false mag (i - j - 55)) ∧ 4 * 4503599627370496 ≤ mag ∧ mag < 16 * 4503599627370496 ∧ mag * n ≤ 2 * (m * (4 * 4503599627370496)) + n ∧ 2 * (m * (4 * 4503599627370496)) ≤ mag * n + n := by
  have e := quot_eq m n i j (log2_52 hm1 hm2) (log2_52 hn1 hn2) (by omega)
  obtain ⟨h1, h2, h3, h4⟩ := quot_rel (p := 4503599627370496) hm1 hm2 hn1 hn2
  exact ⟨_, e, h1, h2, h3, h4⟩
theorem cancel {Q T LU A B u w c d d' : Nat} (hu : 0 < u) (hA : Q * T * u = A * w) (hB : LU * u = B * w) :
    (A * c ≤ B * d → Q * T * c ≤ LU * d) ∧ (B * d' ≤ A * c → LU * d' ≤ Q * T * c) := by
  constructor
  · intro h
    refine Nat.le_of_mul_le_mul_right (c := u) ?_ hu
    rw [Nat.mul_right_comm, hA, Nat.mul_right_comm LU, hB, Nat.mul_right_comm, Nat.mul_right_comm B]
    exact Nat.mul_le_mul_right _ h
  · intro h
    refine Nat.le_of_mul_le_mul_right (c := u) ?_ hu
    rw [Nat.mul_right_comm, hB, Nat.mul_right_comm (Q * T), hA, Nat.mul_right_comm, Nat.mul_right_comm A]
    exact Nat.mul_le_mul_right _ h
/-- L / T, as it is reckoned ahead of rounding. -/
theorem div_near (L T : Nat) (hL : 0 < L) (hLT : L ≤ T) (hT : T ≤ 65536) :
    ∃ mag place, floatBits .quo .f64 (floatOfInt .f64 (L : Int)) (floatOfInt .f64 (T : Int)) = some (double.nearest false mag place) ∧ 4 * 4503599627370496 ≤ mag ∧ mag < 16 * 4503599627370496 ∧ -71 ≤ place ∧ place ≤ -39 ∧
      V mag place * T * 1073741824 ≤ V L 0 * 1073741825 ∧ V L 0 * 1073741823 ≤ V mag place * T * 1073741824 := by
  obtain ⟨a1, a2, a3, a4, a5⟩ := mI_bounds L hL (by omega)
  obtain ⟨b1, b2, b3, b4, b5⟩ := mI_bounds T (by omega) hT
  obtain ⟨mag, hq, c1, c2, c3, c4⟩ := quot (mI L) (mI T) (eI L) (eI T) a1 a2 b1 b2
  refine ⟨mag, eI L - eI T - 55, ?_, c1, c2, by omega, by omega, ?_⟩
  · show ((double.read (floatOfInt .f64 (L : Int))).quotient (52 + 2) (double.read (floatOfInt .f64 (T : Int)))).map double.write = _
    rw [read_int L hL (by omega), read_int T (by omega) hT]
    show ((Datum.number false (mI L) (eI L)).quotient 54 (.number false (mI T) (eI T))).map double.write = _
    rw [hq]
    rfl
  · have hw : V mag (eI L - eI T - 55) * T * V 1 0 = (mag * mI T) * 2 ^ (eI L - 55 + 800).toNat := by
      have h1 : T * V 1 0 = V (mI T) (eI T) := by rw [b5, ← unit_mul]
      rw [Nat.mul_assoc, h1]
      unfold V
      have h2 : 2 ^ (eI L - eI T - 55 + 400).toNat * 2 ^ (eI T + 400).toNat = 2 ^ (eI L - 55 + 800).toNat := by
        rw [← Nat.pow_add]
        congr 1
        omega
      rw [← h2]
      rw [Nat.mul_assoc mag, Nat.mul_left_comm (2 ^ _) (mI T), ← Nat.mul_assoc mag]
    have hl : V L 0 * V 1 0 = (2 * (mI L * (4 * 4503599627370496))) * 2 ^ (eI L - 55 + 800).toNat := by
      rw [← a5]
      unfold V
      have h55 : 2 * (mI L * (4 * 4503599627370496)) = mI L * 2 ^ 55 := by rw [Nat.mul_left_comm]
      rw [h55, Nat.one_mul, Nat.mul_assoc, Nat.mul_assoc, ← Nat.pow_add, ← Nat.pow_add, show (eI L + 400).toNat + ((0 : Int) + 400).toNat = 55 + (eI L - 55 + 800).toNat by omega]
    obtain ⟨k1, k2⟩ := cancel (c := 1073741824) (d := 1073741825) (d' := 1073741823) (V_pos 0 (by decide)) hw hl
    have hn : mI T * 1073741824 ≤ 2 * (mI L * (4 * 4503599627370496)) := rel0 b2 a1 (by decide)
    generalize mag * mI T = A at c3 c4 k1 k2
    generalize 2 * (mI L * (4 * 4503599627370496)) = B at c3 c4 k1 k2 hn
    generalize mI T = n at c3 c4 hn
    clear hq hw hl a1 a2 b1 b2
    exact ⟨k1 (rel1 (by decide) c3 hn), k2 (rel2 (by decide) c4 hn)⟩
theorem up {A B U : Nat} (h : A * 1073741824 ≤ B * 1073741825) (hB : B ≤ 131072 * U) : A * 8192 ≤ B * 8192 + U := by
  refine Nat.le_of_mul_le_mul_right (c := 131072) ?_ (by omega)
  have e1 : A * 8192 * 131072 = A * 1073741824 := Nat.mul_assoc _ _ _
  have e2 : B * 8192 * 131072 = B * 1073741824 := Nat.mul_assoc _ _ _
  have e3 : B * 1073741825 = B * 1073741824 + B := by rw [show (1073741825 : Nat) = 1073741824 + 1 from rfl, Nat.mul_add, Nat.mul_one]
  rw [e1, Nat.add_mul, e2, Nat.mul_comm U]
  rw [e3] at h
  exact Nat.le_trans h (Nat.add_le_add_left hB _)
theorem down {A B U : Nat} (h : B * 1073741823 ≤ A * 1073741824) (hB : B ≤ 131072 * U) : B * 8192 ≤ A * 8192 + U := by
  refine Nat.le_of_mul_le_mul_right (c := 131072) ?_ (by omega)
  have e1 : A * 8192 * 131072 = A * 1073741824 := Nat.mul_assoc _ _ _
  have e2 : B * 8192 * 131072 = B * 1073741823 + B := by rw [Nat.mul_assoc, show (8192 * 131072 : Nat) = 1073741823 + 1 from rfl, Nat.mul_add, Nat.mul_one]
  rw [e2, Nat.add_mul, e1, Nat.mul_comm U]
  exact Nat.add_le_add h hB
theorem halve {A B U : Nat} (h : A * 8192 ≤ B * 8192 + U + U) : A * 4096 ≤ B * 4096 + U := by
  refine Nat.le_of_mul_le_mul_right (c := 2) ?_ (by decide)
  have e1 : A * 4096 * 2 = A * 8192 := Nat.mul_assoc _ _ _
  have e2 : B * 4096 * 2 = B * 8192 := Nat.mul_assoc _ _ _
  rw [e1, Nat.add_mul, e2, Nat.mul_two, ← Nat.add_assoc]
  exact h
theorem chain {a b P P1 S R U : Nat} (hb : b ≤ 65536 * U) (h1 : a * 1073741824 ≤ b * 1073741825) (h1' : b * 1073741823 ≤ a * 1073741824)
    (h2 : P * 1073741824 ≤ a * 1073741825) (h2' : a * 1073741823 ≤ P * 1073741824) : P * 4096 ≤ b * 4096 + U ∧ b * 4096 ≤ P * 4096 + U := by
  have hb2 : b ≤ 131072 * U := Nat.le_trans hb (Nat.mul_le_mul_right U (by decide))
  have q1 := up h1 hb2
  have q2 := down h1' hb2
  clear h1 h1'
  have ha : a ≤ 131072 * U := by clear h2 h2'; omega
  have q3 := up h2 ha
  have q4 := down h2' ha
  clear h2 h2' ha hb2 hb
  have r1 := Nat.le_trans q3 (Nat.add_le_add_right q1 U)
  have r2 := Nat.le_trans q2 (Nat.add_le_add_right q4 U)
  clear q1 q2 q3 q4
  exact ⟨halve r1, halve r2⟩
theorem chain2 {b P P1 S R U : Nat} (hU : 0 < U) (hb : b ≤ 65536 * U) (h1 : P * 4096 ≤ b * 4096 + U) (h1' : b * 4096 ≤ P * 4096 + U)
    (h3 : P1 * 1073741824 ≤ P * 1073741825) (h3' : P * 1073741823 ≤ P1 * 1073741824) (hS : 2 * S = 2 * P1 + U)
    (h4 : R * 1073741824 ≤ S * 1073741825) (h4' : S * 1073741823 ≤ R * 1073741824) : b ≤ R ∧ R < b + U := by
  have hP : P ≤ 131072 * U := by clear h3 h3' h4 h4'; omega
  have q1 := up h3 hP
  have q2 := down h3' hP
  clear h3 h3'
  have hS2 : S ≤ 131072 * U := by clear h4 h4'; omega
  have q3 := up h4 hS2
  have q4 := down h4' hS2
  clear h4 h4'
  constructor <;> omega
theorem mul_step {X Q T c d : Nat} (h : X * c ≤ Q * d) : X * T * c ≤ Q * T * d := by
  rw [Nat.mul_right_comm, Nat.mul_right_comm Q]
  exact Nat.mul_le_mul_right _ h
theorem half_read : double.read 4602678819172646912 = .number false 4503599627370496 (-53) := by decide
theorem one_read : double.read 4607182418800017408 = .number false 4503599627370496 (-52) := by decide
theorem zero_read : double.read 0 = .number false 0 (-1074) := by decide
theorem sum_eq (k h : Nat) (e f : Int) (hh : 0 < h) : (Datum.number false k e).sum (.number false h f) = some (.number false (k * 2 ^ (e - min e f).toNat + h * 2 ^ (f - min e f).toNat) (min e f)) := by
  have hp : 0 < h * 2 ^ (f - min e f).toNat := Nat.mul_pos hh (Nat.two_pow_pos _)
  unfold Datum.sum signed
  simp only [Nat.shiftLeft_eq, Bool.false_eq_true, if_false]
  have h1 : ¬ ((k * 2 ^ (e - min e f).toNat : Nat) : Int) + ((h * 2 ^ (f - min e f).toNat : Nat) : Int) = 0 := by omega
  have h2 : ¬ ((k * 2 ^ (e - min e f).toNat : Nat) : Int) + ((h * 2 ^ (f - min e f).toNat : Nat) : Int) < 0 := by omega
  rw [if_neg h1]
  simp only [h2, decide_false]
  congr 2
theorem order_lt (k h : Nat) (e f : Int) (he : -400 ≤ e) (hf : -400 ≤ f) (hV : V k e < V h f) : (Datum.number false k e).order (.number false h f) = some .lt := by
  unfold Datum.order signed
  simp only [Nat.shiftLeft_eq, Bool.false_eq_true, if_false]
  have e1 : V k e = k * 2 ^ (e - min e f).toNat * 2 ^ (min e f + 400).toNat := by
    unfold V
    rw [Nat.mul_assoc, ← Nat.pow_add, show (e - min e f).toNat + (min e f + 400).toNat = (e + 400).toNat by omega]
  have e2 : V h f = h * 2 ^ (f - min e f).toNat * 2 ^ (min e f + 400).toNat := by
    unfold V
    rw [Nat.mul_assoc, ← Nat.pow_add, show (f - min e f).toNat + (min e f + 400).toNat = (f + 400).toNat by omega]
  rw [e1, e2] at hV
  have h3 := Nat.lt_of_mul_lt_mul_right hV
  congr 1
  rw [Int.compare_eq_lt]
  omega
theorem order_gt (k : Nat) (e f : Int) (hk : 0 < k) : (Datum.number false k e).order (.number false 0 f) = some .gt := by
  unfold Datum.order signed
  simp only [Nat.shiftLeft_eq, Bool.false_eq_true, if_false]
  have hp : 0 < k * 2 ^ (e - min e f).toNat := Nat.mul_pos hk (Nat.two_pow_pos _)
  congr 1
  rw [Int.compare_eq_gt]
  simp
  exact_mod_cast hp
theorem to_int (k : Nat) (e : Int) (L : Nat) (hk1 : 4503599627370496 ≤ k) (hk2 : k < 9007199254740992) (hL : 0 < L) (hL2 : L ≤ 65536) (he : -400 ≤ e) (h1 : V L 0 ≤ V k e) (h2 : V k e < V L 0 + V 1 0) :
    (Datum.number false k e).toInt .zero = some (L : Int) := by
  have hneg : e < 0 := by
    by_cases h : e < 0
    · exact h
    · have h3 : V k 0 ≤ V k e := by
        unfold V
        exact Nat.mul_le_mul_left _ (Nat.pow_le_pow_right (by decide) (by omega))
      have h4 : V k 0 < V (L + 1) 0 := by rw [V_add]; omega
      have h5 : k < L + 1 := Nat.lt_of_mul_lt_mul_right h4
      omega
  obtain ⟨d, hd⟩ : ∃ d : Nat, e = -(d : Int) := ⟨(-e).toNat, by omega⟩
  subst hd
  have hd4 : d ≤ 400 := by omega
  have hV0 : ∀ n, V n 0 = n * 2 ^ d * 2 ^ (400 - d) := fun n => by
    unfold V
    rw [Nat.mul_assoc, ← Nat.pow_add, show (0 + 400 : Int).toNat = d + (400 - d) by omega]
  have hVk : V k (-(d : Int)) = k * 2 ^ (400 - d) := by
    unfold V
    rw [show (-(d : Int) + 400).toNat = 400 - d by omega]
  have hpos := Nat.two_pow_pos (400 - d)
  rw [hV0, hVk] at h1
  rw [hVk, ← V_add, hV0] at h2
  have k1 : L * 2 ^ d ≤ k := Nat.le_of_mul_le_mul_right h1 hpos
  have k2 : k < (L + 1) * 2 ^ d := Nat.lt_of_mul_lt_mul_right h2
  have hd53 : d ≤ 53 := by
    by_cases h : d ≤ 53
    · exact h
    · have h3 : 2 ^ 54 ≤ 2 ^ d := Nat.pow_le_pow_right (by decide) (by omega)
      have h4 : 1 * 2 ^ d ≤ L * 2 ^ d := Nat.mul_le_mul_right _ hL
      rw [Nat.one_mul] at h4
      have h5 : 2 ^ 54 ≤ k := Nat.le_trans h3 (Nat.le_trans h4 k1)
      have h6 : (2 : Nat) ^ 54 = 18014398509481984 := by decide
      rw [h6] at h5
      omega
  have hdiv : k / 2 ^ d = L := by
    refine Nat.div_eq_of_lt_le ?_ ?_
    · exact k1
    · exact k2
  unfold Datum.toInt Datum.integral Toward.cut
  simp only [log2_52 hk1 hk2]
  rw [show (-(d : Int)).toNat = 0 by omega, show (- -(d : Int)).toNat = d by omega]
  simp only [Nat.shiftLeft_zero, log2_52 hk1 hk2]
  rw [show min d (52 + 2) = d by omega, Nat.shiftLeft_eq, Nat.one_mul, hdiv]
  simp [signed]
theorem V_half (k : Nat) (e : Int) (he : -400 ≤ e) : 2 * V (k * 2 ^ (e - min e (-53)).toNat + 4503599627370496 * 2 ^ (-53 - min e (-53)).toNat) (min e (-53)) = 2 * V k e + V 1 0 := by
  have h1 : V (k * 2 ^ (e - min e (-53)).toNat) (min e (-53)) = V k e := by
    rw [V_shift _ _ _ (by omega), show min e (-53) + (((e - min e (-53)).toNat : Nat) : Int) = e by omega]
  have h2 : V (4503599627370496 * 2 ^ (-53 - min e (-53)).toNat) (min e (-53)) = V 4503599627370496 (-53) := by
    rw [V_shift _ _ _ (by omega), show min e (-53) + (((-53 - min e (-53)).toNat : Nat) : Int) = -53 by omega]
  have h3 : 2 * V 4503599627370496 (-53) = V 1 0 := by
    rw [← V_mul, show 2 * 4503599627370496 = 1 * 2 ^ 53 by decide, V_shift _ _ _ (by omega)]
    rfl
  rw [V_add, h1, h2, Nat.mul_add, h3]
theorem log2_le {n k : Nat} (h0 : 0 < n) (h : n < 2 ^ (k + 1)) : n.log2 ≤ k := by
  have h1 := Nat.log2_self_le (Nat.pos_iff_ne_zero.1 h0)
  by_cases h2 : n.log2 ≤ k
  · exact h2
  · have h3 : 2 ^ (k + 1) ≤ 2 ^ n.log2 := Nat.pow_le_pow_right (by decide) (by omega)
    omega
theorem le_log2 {n k : Nat} (h0 : 0 < n) (h : 2 ^ k ≤ n) : k ≤ n.log2 := by
  have h1 := Nat.lt_log2_self (n := n)
  by_cases h2 : k ≤ n.log2
  · exact h2
  · have h3 : 2 ^ (n.log2 + 1) ≤ 2 ^ k := Nat.pow_le_pow_right (by decide) (by omega)
    omega
theorem below_one {P b U tu : Nat} (hU : 0 < U) (h : P * 4096 ≤ b * 4096 + U) (h1 : b + U ≤ tu) : P < tu := by
  by_cases hp : P < tu
  · exact hp
  · have h2 : tu * 4096 ≤ P * 4096 := Nat.mul_le_mul_right _ (by omega)
    have h3 : (b + U) * 4096 ≤ tu * 4096 := Nat.mul_le_mul_right _ h1
    rw [Nat.add_mul] at h3
    omega
abbrev one : Nat := 4607182418800017408
theorem self_div (T : Nat) (h0 : 0 < T) (hT : T ≤ 65536) : floatBits .quo .f64 (floatOfInt .f64 (T : Int)) (floatOfInt .f64 (T : Int)) = some one := by
  obtain ⟨b1, b2, b3, b4, b5⟩ := mI_bounds T h0 hT
  show ((double.read (floatOfInt .f64 (T : Int))).quotient (52 + 2) (double.read (floatOfInt .f64 (T : Int)))).map double.write = _
  rw [read_int T h0 hT]
  have e := quot_eq (mI T) (mI T) (eI T) (eI T) (log2_52 b1 b2) (log2_52 b1 b2) (by omega)
  show ((Datum.number false (mI T) (eI T)).quotient 54 (.number false (mI T) (eI T))).map double.write = _
  rw [e, Nat.mul_div_cancel_left _ (by omega), Nat.mul_mod_right, show eI T - eI T - 55 = -55 by omega]
  decide
theorem part_law (L T : Nat) (hL : 0 < L) (hLT : L ≤ T) (hT : T ≤ 65536) :
    ∃ r p s, floatBits .quo .f64 (floatOfInt .f64 (L : Int)) (floatOfInt .f64 (T : Int)) = some r ∧ floatBits .mul .f64 r (floatOfInt .f64 (T : Int)) = some p ∧ floatBits .add .f64 p 4602678819172646912 = some s ∧
      floatToIntVal .f64 s .i64 = some (L : Int) ∧ double.order r 0 = some .gt ∧ (L < T → double.order r one = some .lt) ∧ (L = T → r = one) := by
  obtain ⟨mag, place, hq, m1, m2, p1, p2, e1, e2⟩ := div_near L T hL hLT hT
  obtain ⟨b1, b2, b3, b4, b5⟩ := mI_bounds T (by omega) hT
  have hm0 : 0 < mag := by omega
  have l1 : 54 ≤ mag.log2 := le_log2 hm0 (by rw [show (2 : Nat) ^ 54 = 4 * 4503599627370496 by decide]; exact m1)
  have l2 : mag.log2 ≤ 55 := log2_le hm0 (by rw [show (2 : Nat) ^ (55 + 1) = 16 * 4503599627370496 by decide]; exact m2)
  obtain ⟨kx, ex, hr, ⟨kb1, kb2⟩, x1, x2, v1, v2⟩ := nearest_near mag place hm0 (by omega) (by omega) (by omega) (by omega)
  have hx1 : -69 ≤ ex := by omega
  have hx2 : ex ≤ -35 := by omega
  clear m1 m2 p1 p2 l1 l2 x1 x2
  -- the product
  have hmul : floatBits .mul .f64 (double.nearest false mag place) (floatOfInt .f64 (T : Int)) = some (double.nearest false (kx * mI T) (ex + eI T)) := by
    show ((double.read (double.nearest false mag place)).product (double.read (floatOfInt .f64 (T : Int)))).map double.write = _
    rw [hr, read_int T (by omega) hT]
    rfl
  have hP : V (kx * mI T) (ex + eI T) = V kx ex * T := by
    refine Nat.eq_of_mul_eq_mul_right (V_pos (k := 1) 0 (by decide)) ?_
    have h1 : T * V 1 0 = V (mI T) (eI T) := by rw [b5, ← unit_mul]
    rw [Nat.mul_assoc (V kx ex), h1]
    unfold V
    have h2 : 2 ^ (ex + eI T + 400).toNat * (1 * 2 ^ ((0 : Int) + 400).toNat) = 2 ^ (ex + 400).toNat * 2 ^ (eI T + 400).toNat := by
      rw [Nat.one_mul, ← Nat.pow_add, ← Nat.pow_add, show (ex + eI T + 400).toNat + ((0 : Int) + 400).toNat = (ex + 400).toNat + (eI T + 400).toNat by omega]
    rw [Nat.mul_assoc, h2, Nat.mul_assoc kx, Nat.mul_assoc kx, Nat.mul_left_comm (mI T)]
  have hkn0 : 0 < kx * mI T := Nat.mul_pos (by omega) (by omega)
  have l3 : 104 ≤ (kx * mI T).log2 := le_log2 hkn0 (by
    have h1 : 4503599627370496 * 4503599627370496 ≤ kx * mI T := Nat.mul_le_mul kb1 b1
    exact Nat.le_trans (by decide) h1)
  have l4 : (kx * mI T).log2 ≤ 105 := log2_le hkn0 (by
    have h1 : kx * mI T < 9007199254740992 * 9007199254740992 := Nat.lt_of_lt_of_le (Nat.mul_lt_mul_of_pos_right kb2 (by omega)) (Nat.mul_le_mul_left _ (Nat.le_of_lt b2))
    exact Nat.lt_of_lt_of_le h1 (by decide))
  obtain ⟨kp, ep, hp, ⟨pb1, pb2⟩, y1, y2, w1, w2⟩ := nearest_near (kx * mI T) (ex + eI T) hkn0 (by omega) (by omega) (by omega) (by omega)
  have hy1 : -69 ≤ ep := by omega
  have hy2 : ep ≤ -17 := by omega
  rw [hP] at w1 w2
  clear l3 l4 y1 y2
  -- the sum
  have hadd : floatBits .add .f64 (double.nearest false (kx * mI T) (ex + eI T)) 4602678819172646912 = some (double.nearest false (kp * 2 ^ (ep - min ep (-53)).toNat + 4503599627370496 * 2 ^ (-53 - min ep (-53)).toNat) (min ep (-53))) := by
    show ((double.read (double.nearest false (kx * mI T) (ex + eI T))).sum (double.read 4602678819172646912)).map double.write = _
    rw [hp, half_read, sum_eq _ _ _ _ (by decide)]
    rfl
  have hS := V_half kp ep (by omega)
  have ht0 : 0 < kp * 2 ^ (ep - min ep (-53)).toNat + 4503599627370496 * 2 ^ (-53 - min ep (-53)).toNat := Nat.add_pos_left (Nat.mul_pos (by omega) (Nat.two_pow_pos _)) _
  have ht1 : (kp * 2 ^ (ep - min ep (-53)).toNat + 4503599627370496 * 2 ^ (-53 - min ep (-53)).toNat).log2 ≤ 100 := log2_le ht0 (by
    have h1 : kp * 2 ^ (ep - min ep (-53)).toNat ≤ 9007199254740992 * 2 ^ 40 := Nat.mul_le_mul (Nat.le_of_lt pb2) (Nat.pow_le_pow_right (by decide) (by omega))
    have h2 : 4503599627370496 * 2 ^ (-53 - min ep (-53)).toNat ≤ 9007199254740992 * 2 ^ 40 := Nat.mul_le_mul (by decide) (Nat.pow_le_pow_right (by decide) (by omega))
    exact Nat.lt_of_le_of_lt (Nat.add_le_add h1 h2) (by decide))
  generalize kp * 2 ^ (ep - min ep (-53)).toNat + 4503599627370496 * 2 ^ (-53 - min ep (-53)).toNat = tot at hadd hS ht0 ht1
  have hb1 : -69 ≤ min ep (-53) := by omega
  have hb2 : min ep (-53) ≤ -53 := by omega
  generalize min ep (-53) = base at hadd hS hb1 hb2
  obtain ⟨ks, es, hs, ⟨sb1, sb2⟩, z1, z2, u1, u2⟩ := nearest_near tot base ht0 (by omega) (by omega) (by omega) (by omega)
  have hU : 0 < V 1 0 := V_pos 0 (by decide)
  have hbL : V L 0 ≤ 65536 * V 1 0 := by rw [unit_mul]; exact Nat.mul_le_mul_right _ (by omega)
  obtain ⟨c1, c2⟩ := chain (P1 := 0) (S := 0) (R := 0) hbL e1 e2 (mul_step v1) (mul_step v2)
  obtain ⟨d1, d2⟩ := chain2 hU hbL c1 c2 w1 w2 hS u1 u2
  refine ⟨_, _, _, hq, hmul, hadd, ?_, ?_, ?_, ?_⟩
  · unfold floatToIntVal
    have h1 : FloatKind.f64.decode (double.nearest false tot base) = .number false ks es := hs
    rw [h1, to_int ks es L sb1 sb2 hL (by omega) (by omega) d1 d2]
    have e1 : IntKind.i64.min = -9223372036854775808 := by decide
    have e2 : IntKind.i64.max = 9223372036854775807 := by decide
    simp only [e1, e2]
    rw [if_pos (by omega)]
  · show (double.read _).order (double.read 0) = _
    rw [hr, zero_read]
    exact order_gt _ _ _ (by omega)
  · intro hlt
    show (double.read _).order (double.read one) = _
    rw [hr, one_read]
    refine order_lt _ _ _ _ (by omega) (by omega) ?_
    have h52 : V 4503599627370496 (-52) = V 1 0 := by
      rw [show (4503599627370496 : Nat) = 1 * 2 ^ 52 by decide, V_shift _ _ _ (by omega)]
      rfl
    rw [h52]
    rw [unit_mul] at c1
    have h1 : (L + 1) * V 1 0 ≤ T * V 1 0 := Nat.mul_le_mul_right _ (by omega)
    rw [Nat.add_mul, Nat.one_mul] at h1
    generalize V 1 0 = U at *
    generalize L * U = b at *
    refine Nat.lt_of_mul_lt_mul_right (a := T) ?_
    rw [Nat.mul_comm U]
    generalize V kx ex * T = P at *
    generalize T * U = tu at *
    clear e1 e2 v1 v2 w1 w2 u1 u2 d1 d2 hS
    exact below_one hU c1 h1
  · intro heq
    have h1 := self_div T (by omega) hT
    subst heq
    rw [hq] at h1
    exact Option.some.inj h1
end Go.Proofs.Ytcjeegomonegpaa.Fl
