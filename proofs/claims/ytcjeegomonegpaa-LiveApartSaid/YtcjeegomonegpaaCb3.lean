/- YtcjeegomonegpaaCb3: what this claim rests on. Words and contracts are those of the kit's print (print.sh wrote them, those that nothing here reaches are left out); all else is own work. Conditions: what each theorem says. -/
import Derived.Test.YtcjeegomonegpaaCb2
import Derived.Laws.FloatArith
import Derived.Deep.DeepCutAuto
import Derived.IntWalk
import Derived.Shelf.SlSortCmp.NoneTotal
namespace Go.Proofs.Ytcjeegomonegpaa.Fl
open Ieee
set_option linter.unusedVariables false
set_option linter.unusedSimpArgs false
def V (k : Nat) (e : Int) : Nat := k * 2 ^ (e + 400).toNat
theorem V_shift (k d : Nat) (e : Int) (he : -400 ≤ e) : V (k * 2 ^ d) e = V k (e + d) := by
  unfold V
  rw [show (e + d + 400).toNat = d + (e + 400).toNat by omega, Nat.pow_add, Nat.mul_assoc]
theorem V_pos {k : Nat} (e : Int) (h : 0 < k) : 0 < V k e := Nat.mul_pos h (Nat.two_pow_pos _)
theorem unit_mul (n : Nat) : V n 0 = n * V 1 0 := by
  unfold V
  rw [Nat.one_mul]
theorem V_le {a b c c' : Nat} (e : Int) (h : a * c ≤ b * c') : V a e * c ≤ V b e * c' := by
  unfold V
  rw [Nat.mul_right_comm, Nat.mul_right_comm b]
  exact Nat.mul_le_mul_right _ h
theorem near1g {kd mag d c : Nat} (c2 : kd * 2 ≤ mag * 2 + d) (hd : d * c ≤ mag) : kd * (2 * c) ≤ mag * (2 * c + 1) := by
  have h1 : kd * 2 * c ≤ (mag * 2 + d) * c := Nat.mul_le_mul_right _ c2
  rw [Nat.add_mul] at h1
  rw [← Nat.mul_assoc, Nat.mul_add, ← Nat.mul_assoc, Nat.mul_one]
  exact Nat.le_trans h1 (Nat.add_le_add_left hd _)
theorem near2g {kd mag d c : Nat} (c1 : mag * 2 ≤ kd * 2 + d) (hd : d * c ≤ mag) : mag * (2 * c - 1) ≤ kd * (2 * c) := by
  have h1 : mag * 2 * c ≤ (kd * 2 + d) * c := Nat.mul_le_mul_right _ c1
  rw [Nat.add_mul] at h1
  rw [Nat.mul_sub, Nat.mul_one, ← Nat.mul_assoc, ← Nat.mul_assoc]
  omega
theorem read_rung (E kept : Nat) (hE : E ≤ 2000) (h1 : 4503599627370496 ≤ kept) (h2 : kept ≤ 9007199254740992) :
    ∃ k e, double.read (E * 4503599627370496 + kept) = .number false k e ∧ (4503599627370496 ≤ k ∧ k < 9007199254740992) ∧ (-1074 : Int) + E ≤ e ∧ e ≤ (-1074 : Int) + E + 1 ∧ (E ≥ 674 → V k e = V kept ((-1074 : Int) + E)) := by
  have b : double.binade = 4503599627370496 := by decide
  have s : double.signWeight = 9223372036854775808 := by decide
  have i : double.infRung = 9218868437227405312 := by decide
  have l : double.leastPlace = -1074 := by decide
  unfold Format.read
  rw [b, s, i, l]
  have e1 : (E * 4503599627370496 + kept) % 9223372036854775808 = E * 4503599627370496 + kept := Nat.mod_eq_of_lt (by omega)
  have e2 : (E * 4503599627370496 + kept) / 9223372036854775808 = 0 := Nat.div_eq_of_lt (by omega)
  simp only [e1, e2]
  rw [if_neg (by omega), if_pos (by omega)]
  by_cases hk : kept < 9007199254740992
  · refine ⟨_, _, rfl, ⟨by omega, by omega⟩, by omega, by omega, fun _ => ?_⟩
    rw [show 4503599627370496 + (E * 4503599627370496 + kept) % 4503599627370496 = kept by omega, show (E * 4503599627370496 + kept) / 4503599627370496 - 1 = E by omega]
  · have : kept = 9007199254740992 := by omega
    subst this
    refine ⟨_, _, rfl, ⟨by omega, by omega⟩, by omega, by omega, fun hE' => ?_⟩
    rw [show 4503599627370496 + (E * 4503599627370496 + 9007199254740992) % 4503599627370496 = 4503599627370496 by omega, show (E * 4503599627370496 + 9007199254740992) / 4503599627370496 - 1 = E + 1 by omega,
      show (9007199254740992 : Nat) = 4503599627370496 * 2 ^ 1 by decide, V_shift _ 1 _ (by omega), show ((-1074 : Int) + ((E + 1 : Nat) : Int)) = -1074 + (E : Int) + ((1 : Nat) : Int) by omega]
theorem cut_even (n drop lg : Nat) (h1 : 2 ^ lg ≤ n) (h2 : n < 2 ^ (lg + 1)) (hl : n.log2 = lg) (hd : drop ≤ lg) :
    n * 2 ≤ Toward.even.cut false n drop * 2 ^ drop * 2 + 2 ^ drop ∧ Toward.even.cut false n drop * 2 ^ drop * 2 ≤ n * 2 + 2 ^ drop ∧ n / 2 ^ drop ≤ Toward.even.cut false n drop ∧ Toward.even.cut false n drop ≤ n / 2 ^ drop + 1 ∧ (drop = 0 → Toward.even.cut false n drop = n) := by
  unfold Toward.cut
  simp only [hl]
  rw [show min drop (lg + 2) = drop by omega, Nat.shiftLeft_eq, Nat.one_mul]
  have hpos := Nat.two_pow_pos drop
  have hdm := Nat.div_add_mod n (2 ^ drop)
  have hml := Nat.mod_lt n hpos
  generalize hq : n / 2 ^ drop = q at hdm
  generalize hr : n % 2 ^ drop = r at hdm hml
  generalize hp : 2 ^ drop = p at hdm hml hpos
  have hpq : p * q = q * p := Nat.mul_comm _ _
  by_cases hb : (decide (p < 2 * r) || (p == 2 * r && q % 2 == 1)) = true
  · rw [hb]
    simp only [Bool.toNat_true]
    have h2r : p ≤ 2 * r := by
      simp at hb
      omega
    rw [Nat.add_mul, Nat.one_mul]
    refine ⟨by omega, by omega, by omega, by omega, fun h0 => ?_⟩
    subst h0
    simp at hp
    omega
  · have hb' : (decide (p < 2 * r) || (p == 2 * r && q % 2 == 1)) = false := by simpa using hb
    rw [hb']
    simp only [Bool.toNat_false, Nat.add_zero]
    have h2r : 2 * r ≤ p := by
      simp at hb
      omega
    refine ⟨by omega, by omega, by omega, by omega, fun h0 => ?_⟩
    subst h0
    simp at hp
    subst hp
    omega
theorem nearest_exact (mag : Nat) (place : Int) (h0 : 0 < mag) (h1 : -300 ≤ place) (h2 : place ≤ 300) (h3 : mag.log2 ≤ 52) :
    double.read (double.nearest false mag place) = .number false (mag * 2 ^ (52 - mag.log2)) (place + mag.log2 - 52) := by
  have hlo := Nat.log2_self_le (Nat.pos_iff_ne_zero.1 h0)
  have hhi := Nat.lt_log2_self (n := mag)
  generalize hlg : mag.log2 = lg at hlo hhi h3 ⊢
  have l : double.leastPlace = -1074 := by decide
  have b : double.binade = 4503599627370496 := by decide
  have i : double.infRung = 9218868437227405312 := by decide
  have s : double.signWeight = 9223372036854775808 := by decide
  have fb : double.fractionBits = 52 := rfl
  unfold Format.nearest
  rw [if_neg (by omega)]
  simp only [hlg, l, b, i, fb]
  obtain ⟨E, hE⟩ : ∃ E : Nat, (E : Int) = place + lg - 52 + 1074 := ⟨(place + lg - 52 + 1074).toNat, by omega⟩
  rw [show max (place + (lg : Int) - ((52 : Nat) : Int)) (-1074) = place + lg - 52 by omega]
  rw [show (place + (lg : Int) - 52 - -1074).toNat = E by omega]
  have hw : ∀ r, double.word false r = r := fun r => by simp [Format.word]
  rw [hw]
  rw [show (place - (place + (lg : Int) - 52)).toNat = 52 - lg by omega, show (place + (lg : Int) - 52 - place).toNat = 0 by omega, Nat.shiftLeft_eq]
  have hp : 2 ^ lg * 2 ^ (52 - lg) = 4503599627370496 := by rw [← Nat.pow_add, show lg + (52 - lg) = 52 by omega]
  have hp1 : 2 ^ (lg + 1) * 2 ^ (52 - lg) = 9007199254740992 := by rw [← Nat.pow_add, show lg + 1 + (52 - lg) = 53 by omega]
  have hk1 : 4503599627370496 ≤ mag * 2 ^ (52 - lg) := by rw [← hp]; exact Nat.mul_le_mul_right _ hlo
  have hk2 : mag * 2 ^ (52 - lg) < 9007199254740992 := by rw [← hp1]; exact Nat.mul_lt_mul_of_pos_right hhi (Nat.two_pow_pos _)
  have hc : Toward.even.cut false (mag * 2 ^ (52 - lg)) 0 = mag * 2 ^ (52 - lg) := by
    simp [Toward.cut, Nat.mod_one]
  rw [hc, Nat.min_eq_left (by omega)]
  generalize mag * 2 ^ (52 - lg) = kept at hk1 hk2
  unfold Format.read
  rw [b, s, i, l]
  have e1 : (E * 4503599627370496 + kept) % 9223372036854775808 = E * 4503599627370496 + kept := Nat.mod_eq_of_lt (by omega)
  have e2 : (E * 4503599627370496 + kept) / 9223372036854775808 = 0 := Nat.div_eq_of_lt (by omega)
  simp only [e1, e2]
  rw [if_neg (by omega), if_pos (by omega)]
  rw [show 4503599627370496 + (E * 4503599627370496 + kept) % 4503599627370496 = kept by omega, show (E * 4503599627370496 + kept) / 4503599627370496 - 1 = E by omega, show (-1074 : Int) + (E : Int) = place + lg - 52 by omega]
  rfl
def mI (n : Nat) : Nat := n * 2 ^ (52 - n.log2)
def eI (n : Nat) : Int := (n.log2 : Int) - 52
theorem read_int (n : Nat) (h0 : 0 < n) (h1 : n ≤ 65536) : double.read (floatOfInt .f64 (n : Int)) = .number false (mI n) (eI n) := by
  have hl : n.log2 ≤ 16 := by
    have := Nat.log2_self_le (Nat.pos_iff_ne_zero.1 h0)
    by_cases h : n.log2 ≤ 16
    · exact h
    · have h2 : 2 ^ 17 ≤ 2 ^ n.log2 := Nat.pow_le_pow_right (by omega) (by omega)
      omega
  have e : floatOfInt .f64 (n : Int) = double.nearest false n 0 := by
    have h : decide ((n : Int) < 0) = false := by simp
    show double.nearest (decide ((n : Int) < 0)) (n : Int).natAbs 0 = _
    rw [h]
    rfl
  rw [e, nearest_exact n 0 h0 (by omega) (by omega) (by omega)]
  unfold mI eI
  rw [show (0 : Int) + (n.log2 : Int) - 52 = (n.log2 : Int) - 52 by omega]
theorem mI_bounds (n : Nat) (h0 : 0 < n) (h1 : n ≤ 65536) : 4503599627370496 ≤ mI n ∧ mI n < 9007199254740992 ∧ -52 ≤ eI n ∧ eI n ≤ -36 ∧ V (mI n) (eI n) = V n 0 := by
  have hlo := Nat.log2_self_le (Nat.pos_iff_ne_zero.1 h0)
  have hhi := Nat.lt_log2_self (n := n)
  have hl : n.log2 ≤ 16 := by
    by_cases h : n.log2 ≤ 16
    · exact h
    · have h2 : 2 ^ 17 ≤ 2 ^ n.log2 := Nat.pow_le_pow_right (by omega) (by omega)
      omega
  unfold mI eI
  generalize n.log2 = lg at hlo hhi hl
  have hp : 2 ^ lg * 2 ^ (52 - lg) = 4503599627370496 := by rw [← Nat.pow_add, show lg + (52 - lg) = 52 by omega]
  have hp1 : 2 ^ (lg + 1) * 2 ^ (52 - lg) = 9007199254740992 := by rw [← Nat.pow_add, show lg + 1 + (52 - lg) = 53 by omega]
  refine ⟨by rw [← hp]; exact Nat.mul_le_mul_right _ hlo, by rw [← hp1]; exact Nat.mul_lt_mul_of_pos_right hhi (Nat.two_pow_pos _), by omega, by omega, ?_⟩
  rw [V_shift _ _ _ (by omega), show (lg : Int) - 52 + ((52 - lg : Nat) : Int) = 0 by omega]
theorem rel1 {A B n c d : Nat} (hd : d = c + 1) (h : A ≤ B + n) (hn : n * c ≤ B) : A * c ≤ B * d := by
  have := Nat.mul_le_mul_right c h
  rw [Nat.add_mul] at this
  rw [hd, Nat.mul_add, Nat.mul_one]
  omega
theorem rel2 {A B n c d : Nat} (hd : d + 1 = c) (h : B ≤ A + n) (hn : n * c ≤ B) : B * d ≤ A * c := by
  have := Nat.mul_le_mul_right c h
  rw [Nat.add_mul] at this
  have h2 : B * c = B * d + B := by rw [← hd, Nat.mul_add, Nat.mul_one]
  omega
theorem rel0 {n m p c : Nat} (hn : n < 2 * p) (hm : p ≤ m) (hc : c ≤ 4 * p) : n * c ≤ 2 * (m * (4 * p)) := by
  have h1 : n * c ≤ 2 * p * (4 * p) := Nat.mul_le_mul (by omega) hc
  have h2 : 2 * (p * (4 * p)) ≤ 2 * (m * (4 * p)) := Nat.mul_le_mul_left _ (Nat.mul_le_mul_right _ hm)
  rw [← Nat.mul_assoc] at h2
  exact Nat.le_trans h1 h2
theorem quot_eq (m n : Nat) (i j : Int) (hm : m.log2 = 52) (hn : n.log2 = 52) (hn0 : ¬ n = 0) :
    (Datum.number false m i).quotient 54 (.number false n j) = some (.number false (2 * (m * (4 * 4503599627370496) / n) + (m * (4 * 4503599627370496) % n != 0).toNat) (i - j - 55)) := by
  have h54 : m <<< 54 = m * (4 * 4503599627370496) := by rw [Nat.shiftLeft_eq]
  unfold Datum.quotient
  simp only [hm, hn]
  rw [if_neg hn0, show 54 + 52 - 52 = 54 from rfl, h54, show i - j - ((54 : Nat) : Int) - 1 = i - j - 55 by omega]
  rfl
theorem log2_of {m k : Nat} (h0 : m ≠ 0) (h1 : 2 ^ k ≤ m) (h2 : m < 2 ^ (k + 1)) : m.log2 = k := (Nat.log2_eq_iff h0).2 ⟨h1, h2⟩
theorem log2_52 {m : Nat} (h1 : 4503599627370496 ≤ m) (h2 : m < 9007199254740992) : m.log2 = 52 := log2_of (by omega) (by simpa using h1) (by simpa using h2)
theorem quot_rel {m n p : Nat} (hm1 : p ≤ m) (hm2 : m < 2 * p) (hn1 : p ≤ n) (hn2 : n < 2 * p) :
    4 * p ≤ 2 * (m * (4 * p) / n) + (m * (4 * p) % n != 0).toNat ∧ 2 * (m * (4 * p) / n) + (m * (4 * p) % n != 0).toNat < 16 * p ∧
    (2 * (m * (4 * p) / n) + (m * (4 * p) % n != 0).toNat) * n ≤ 2 * (m * (4 * p)) + n ∧ 2 * (m * (4 * p)) ≤ (2 * (m * (4 * p) / n) + (m * (4 * p) % n != 0).toNat) * n + n := by
  have hn0 : 0 < n := by omega
  have hdm := Nat.div_add_mod (m * (4 * p)) n
  have hml := Nat.mod_lt (m * (4 * p)) hn0
  have hq1 : 2 * p ≤ m * (4 * p) / n := by
    rw [Nat.le_div_iff_mul_le hn0]
    have a1 : 2 * p * n ≤ 2 * p * (2 * p) := Nat.mul_le_mul_left _ (by omega)
    have a2 : p * (4 * p) ≤ m * (4 * p) := Nat.mul_le_mul_right _ hm1
    have a3 : 2 * p * (2 * p) = p * (4 * p) := by rw [Nat.mul_assoc, Nat.mul_left_comm 2 p, ← Nat.mul_assoc 2 2]
    omega
  have hq2 : m * (4 * p) / n < 8 * p := by
    rw [Nat.div_lt_iff_lt_mul hn0]
    have a1 : 8 * p * p ≤ 8 * p * n := Nat.mul_le_mul_left _ hn1
    have a2 : m * (4 * p) < 2 * p * (4 * p) := Nat.mul_lt_mul_of_pos_right hm2 (by omega)
    have a3 : 2 * p * (4 * p) = 8 * p * p := by rw [Nat.mul_assoc, Nat.mul_left_comm p 4, ← Nat.mul_assoc 2 4, Nat.mul_assoc 8]
    omega
  generalize m * (4 * p) = M at hdm hml hq1 hq2
  generalize M / n = q at hdm hq1 hq2
  generalize M % n = r at hdm hml
  by_cases hr : r = 0
  · subst hr
    simp only [bne_self_eq_false, Bool.toNat_false, Nat.add_zero] at hdm ⊢
    have : 2 * q * n = 2 * M := by rw [← hdm, Nat.mul_assoc, Nat.mul_comm q n]
    exact ⟨by omega, by omega, by omega, by omega⟩
  · have hb : (r != 0) = true := by simpa using hr
    rw [hb]
    simp only [Bool.toNat_true]
    have : (2 * q + 1) * n = 2 * (n * q) + n := by rw [Nat.add_mul, Nat.one_mul, Nat.mul_assoc, Nat.mul_comm q n]
    rw [this]
    exact ⟨by omega, by omega, by omega, by omega⟩
theorem quot (m n : Nat) (i j : Int) (hm1 : 4503599627370496 ≤ m) (hm2 : m < 9007199254740992) (hn1 : 4503599627370496 ≤ n) (hn2 : n < 9007199254740992) :
    ∃ mag, (Datum.number false m i).quotient 54 (.number false n j) = some (.number false mag (i - j - 55)) ∧ 4 * 4503599627370496 ≤ mag ∧ mag < 16 * 4503599627370496 ∧ mag * n ≤ 2 * (m * (4 * 4503599627370496)) + n ∧ 2 * (m * (4 * 4503599627370496)) ≤ mag * n + n := by
  have e := quot_eq m n i j (log2_52 hm1 hm2) (log2_52 hn1 hn2) (by omega)
  obtain ⟨h1, h2, h3, h4⟩ := quot_rel (p := 4503599627370496) hm1 hm2 hn1 hn2
  exact ⟨_, e, h1, h2, h3, h4⟩
theorem cancel {Q T LU A B u w c d d' : Nat} (hu : 0 < u) (hA : Q * T * u = A * w) (hB : LU * u = B * w) :
    (A * c ≤ B * d → Q * T * c ≤ LU * d) ∧ (B * d' ≤ A * c → LU * d' ≤ Q * T * c) := by
  constructor
  · intro h
    refine Nat.le_of_mul_le_mul_right (c := u) ?_ hu
    rw [Nat.mul_right_comm, hA, Nat.mul_right_comm LU, hB, Nat.mul_right_comm, Nat.mul_right_comm B]
    exact Nat.mul_le_mul_right _ h
  · intro h
    refine Nat.le_of_mul_le_mul_right (c := u) ?_ hu
    rw [Nat.mul_right_comm, hB, Nat.mul_right_comm (Q * T), hA, Nat.mul_right_comm, Nat.mul_right_comm A]
    exact Nat.mul_le_mul_right _ h
theorem up {A B U : Nat} (h : A * 1073741824 ≤ B * 1073741825) (hB : B ≤ 131072 * U) : A * 8192 ≤ B * 8192 + U := by
  refine Nat.le_of_mul_le_mul_right (c := 131072) ?_ (by omega)
  have e1 : A * 8192 * 131072 = A * 1073741824 := Nat.mul_assoc _ _ _
  have e2 : B * 8192 * 131072 = B * 1073741824 := Nat.mul_assoc _ _ _
  have e3 : B * 1073741825 = B * 1073741824 + B := by rw [show (1073741825 : Nat) = 1073741824 + 1 from rfl, Nat.mul_add, Nat.mul_one]
  rw [e1, Nat.add_mul, e2, Nat.mul_comm U]
  rw [e3] at h
  exact Nat.le_trans h (Nat.add_le_add_left hB _)
theorem zero_read : double.read 0 = .number false 0 (-1074) := by decide
theorem order_lt (k h : Nat) (e f : Int) (he : -400 ≤ e) (hf : -400 ≤ f) (hV : V k e < V h f) : (Datum.number false k e).order (.number false h f) = some .lt := by
  unfold Datum.order signed
  simp only [Nat.shiftLeft_eq, Bool.false_eq_true, if_false]
  have e1 : V k e = k * 2 ^ (e - min e f).toNat * 2 ^ (min e f + 400).toNat := by
    unfold V
    rw [Nat.mul_assoc, ← Nat.pow_add, show (e - min e f).toNat + (min e f + 400).toNat = (e + 400).toNat by omega]
  have e2 : V h f = h * 2 ^ (f - min e f).toNat * 2 ^ (min e f + 400).toNat := by
    unfold V
    rw [Nat.mul_assoc, ← Nat.pow_add, show (f - min e f).toNat + (min e f + 400).toNat = (f + 400).toNat by omega]
  rw [e1, e2] at hV
  have h3 := Nat.lt_of_mul_lt_mul_right hV
  congr 1
  rw [Int.compare_eq_lt]
  omega
theorem order_gt (k : Nat) (e f : Int) (hk : 0 < k) : (Datum.number false k e).order (.number false 0 f) = some .gt := by
  unfold Datum.order signed
  simp only [Nat.shiftLeft_eq, Bool.false_eq_true, if_false]
  have hp : 0 < k * 2 ^ (e - min e f).toNat := Nat.mul_pos hk (Nat.two_pow_pos _)
  congr 1
  rw [Int.compare_eq_gt]
  simp
  exact_mod_cast hp
theorem log2_le {n k : Nat} (h0 : 0 < n) (h : n < 2 ^ (k + 1)) : n.log2 ≤ k := by
  have h1 := Nat.log2_self_le (Nat.pos_iff_ne_zero.1 h0)
  by_cases h2 : n.log2 ≤ k
  · exact h2
  · have h3 : 2 ^ (k + 1) ≤ 2 ^ n.log2 := Nat.pow_le_pow_right (by decide) (by omega)
    omega
theorem le_log2 {n k : Nat} (h0 : 0 < n) (h : 2 ^ k ≤ n) : k ≤ n.log2 := by
  have h1 := Nat.lt_log2_self (n := n)
  by_cases h2 : k ≤ n.log2
  · exact h2
  · have h3 : 2 ^ (n.log2 + 1) ≤ 2 ^ k := Nat.pow_le_pow_right (by decide) (by omega)
    omega
end Go.Proofs.Ytcjeegomonegpaa.Fl
namespace Go.Proofs.Ytcjeegomonegpaa.Fl
open Ieee
set_option linter.unusedVariables false
set_option linter.unusedSimpArgs false
theorem near1h {kd mag d : Nat} (c2 : kd * 2 ≤ mag * 2 + d) (hd : d * 4503599627370496 ≤ mag) : kd * 1099511627776 ≤ mag * 1099511627777 := near1g (c := 549755813888) c2 (Nat.le_trans (Nat.mul_le_mul_left d (by decide)) hd)
theorem near2h {kd mag d : Nat} (c1 : mag * 2 ≤ kd * 2 + d) (hd : d * 4503599627370496 ≤ mag) : mag * 1099511627775 ≤ kd * 1099511627776 := near2g (c := 549755813888) c1 (Nat.le_trans (Nat.mul_le_mul_left d (by decide)) hd)
theorem nearest_nearh (mag : Nat) (place : Int) (h0 : 0 < mag) (h1 : -300 ≤ place) (h2 : place ≤ 300) (h3 : mag.log2 ≤ 300) (h4 : -340 ≤ place + mag.log2 - 52) :
    ∃ k e, double.read (double.nearest false mag place) = .number false k e ∧ (4503599627370496 ≤ k ∧ k < 9007199254740992) ∧ place + mag.log2 - 52 ≤ e ∧ e ≤ place + mag.log2 - 51 ∧ V k e * 1099511627776 ≤ V mag place * 1099511627777 ∧ V mag place * 1099511627775 ≤ V k e * 1099511627776 := by
  have hlo := Nat.log2_self_le (Nat.pos_iff_ne_zero.1 h0)
  have hhi := Nat.lt_log2_self (n := mag)
  generalize hlg : mag.log2 = lg at hlo hhi h3 h4 ⊢
  have l : double.leastPlace = -1074 := by decide
  have b : double.binade = 4503599627370496 := by decide
  have i : double.infRung = 9218868437227405312 := by decide
  have fb : double.fractionBits = 52 := rfl
  unfold Format.nearest
  rw [if_neg (by omega)]
  simp only [hlg, l, b, i, fb]
  obtain ⟨E, hE⟩ : ∃ E : Nat, (E : Int) = place + lg - 52 + 1074 := ⟨(place + lg - 52 + 1074).toNat, by omega⟩
  rw [show max (place + (lg : Int) - ((52 : Nat) : Int)) (-1074) = place + lg - 52 by omega]
  rw [show (place + (lg : Int) - 52 - -1074).toNat = E by omega]
  have hw : ∀ r, double.word false r = r := fun r => by simp [Format.word]
  rw [hw]
  by_cases hlg52 : lg ≤ 52
  · rw [show (place - (place + (lg : Int) - 52)).toNat = 52 - lg by omega, show (place + (lg : Int) - 52 - place).toNat = 0 by omega, Nat.shiftLeft_eq]
    have hp : 2 ^ lg * 2 ^ (52 - lg) = 4503599627370496 := by rw [← Nat.pow_add, show lg + (52 - lg) = 52 by omega]
    have hp1 : 2 ^ (lg + 1) * 2 ^ (52 - lg) = 9007199254740992 := by rw [← Nat.pow_add, show lg + 1 + (52 - lg) = 53 by omega]
    have hk1 : 4503599627370496 ≤ mag * 2 ^ (52 - lg) := by rw [← hp]; exact Nat.mul_le_mul_right _ hlo
    have hk2 : mag * 2 ^ (52 - lg) < 9007199254740992 := by rw [← hp1]; exact Nat.mul_lt_mul_of_pos_right hhi (Nat.two_pow_pos _)
    have hc : Toward.even.cut false (mag * 2 ^ (52 - lg)) 0 = mag * 2 ^ (52 - lg) := by
      simp [Toward.cut, Nat.mod_one]
    rw [hc, Nat.min_eq_left (by omega)]
    obtain ⟨k, e, hr, hk, he1, he2, hV⟩ := read_rung E _ (by omega) hk1 (by omega)
    have hV2 : V k e = V mag place := by
      rw [hV (by omega), show (-1074 : Int) + E = place + lg - 52 by omega, V_shift _ _ _ (by omega)]
      congr 1
      omega
    exact ⟨k, e, hr, hk, by omega, by omega, by rw [hV2]; exact Nat.mul_le_mul_left _ (by omega), by rw [hV2]; exact Nat.mul_le_mul_left _ (by omega)⟩
  · rw [show (place - (place + (lg : Int) - 52)).toNat = 0 by omega, show (place + (lg : Int) - 52 - place).toNat = lg - 52 by omega]
    simp only [Nat.shiftLeft_zero]
    obtain ⟨c1, c2, c3, c4, -⟩ := cut_even mag (lg - 52) lg hlo hhi hlg (by omega)
    have hp : 2 ^ lg = 4503599627370496 * 2 ^ (lg - 52) := by
      rw [show (4503599627370496 : Nat) = 2 ^ 52 by decide, ← Nat.pow_add, show 52 + (lg - 52) = lg by omega]
    have hp1 : 2 ^ (lg + 1) = 9007199254740992 * 2 ^ (lg - 52) := by
      rw [show (9007199254740992 : Nat) = 2 ^ 53 by decide, ← Nat.pow_add, show 53 + (lg - 52) = lg + 1 by omega]
    have q1 : 4503599627370496 ≤ mag / 2 ^ (lg - 52) := by
      rw [Nat.le_div_iff_mul_le (Nat.two_pow_pos _), ← hp]
      exact hlo
    have q2 : mag / 2 ^ (lg - 52) < 9007199254740992 := by
      rw [Nat.div_lt_iff_lt_mul (Nat.two_pow_pos _), ← hp1]
      exact hhi
    generalize Toward.even.cut false mag (lg - 52) = kept at c1 c2 c3 c4
    rw [Nat.min_eq_left (by omega)]
    obtain ⟨k, e, hr, hk, he1, he2, hV⟩ := read_rung E kept (by omega) (by omega) (by omega)
    have hV2 : V k e = V (kept * 2 ^ (lg - 52)) place := by
      rw [hV (by omega), show (-1074 : Int) + E = place + lg - 52 by omega, V_shift _ _ _ (by omega)]
      congr 1
      omega
    have hd : 2 ^ (lg - 52) * 4503599627370496 ≤ mag := by rw [Nat.mul_comm, ← hp]; exact hlo
    generalize 2 ^ (lg - 52) = d at c1 c2 hd hV2
    generalize kept * d = kd at c1 c2 hV2
    refine ⟨k, e, hr, hk, by omega, by omega, ?_, ?_⟩
    · rw [hV2]
      exact V_le place (near1h c2 hd)
    · rw [hV2]
      exact V_le place (near2h c1 hd)
theorem div_nearh (L T : Nat) (hL : 0 < L) (hLT : L ≤ T) (hT : T ≤ 65536) :
    ∃ mag place, floatBits .quo .f64 (floatOfInt .f64 (L : Int)) (floatOfInt .f64 (T : Int)) = some (double.nearest false mag place) ∧ 4 * 4503599627370496 ≤ mag ∧ mag < 16 * 4503599627370496 ∧ -71 ≤ place ∧ place ≤ -39 ∧
      V mag place * T * 1099511627776 ≤ V L 0 * 1099511627777 ∧ V L 0 * 1099511627775 ≤ V mag place * T * 1099511627776 := by
  obtain ⟨a1, a2, a3, a4, a5⟩ := mI_bounds L hL (by omega)
  obtain ⟨b1, b2, b3, b4, b5⟩ := mI_bounds T (by omega) hT
  obtain ⟨mag, hq, c1, c2, c3, c4⟩ := quot (mI L) (mI T) (eI L) (eI T) a1 a2 b1 b2
  refine ⟨mag, eI L - eI T - 55, ?_, c1, c2, by omega, by omega, ?_⟩
  · show ((double.read (floatOfInt .f64 (L : Int))).quotient (52 + 2) (double.read (floatOfInt .f64 (T : Int)))).map double.write = _
    rw [read_int L hL (by omega), read_int T (by omega) hT]
    show ((Datum.number false (mI L) (eI L)).quotient 54 (.number false (mI T) (eI T))).map double.write = _
    rw [hq]
    rfl
  · have hw : V mag (eI L - eI T - 55) * T * V 1 0 = (mag * mI T) * 2 ^ (eI L - 55 + 800).toNat := by
      have h1 : T * V 1 0 = V (mI T) (eI T) := by rw [b5, ← unit_mul]
      rw [Nat.mul_assoc, h1]
      unfold V
      have h2 : 2 ^ (eI L - eI T - 55 + 400).toNat * 2 ^ (eI T + 400).toNat = 2 ^ (eI L - 55 + 800).toNat := by
        rw [← Nat.pow_add]
        congr 1
        omega
      rw [← h2]
      rw [Nat.mul_assoc mag, Nat.mul_left_comm (2 ^ _) (mI T), ← Nat.mul_assoc mag]
    have hl : V L 0 * V 1 0 = (2 * (mI L * (4 * 4503599627370496))) * 2 ^ (eI L - 55 + 800).toNat := by
      rw [← a5]
      unfold V
      have h55 : 2 * (mI L * (4 * 4503599627370496)) = mI L * 2 ^ 55 := by rw [Nat.mul_left_comm]
      rw [h55, Nat.one_mul, Nat.mul_assoc, Nat.mul_assoc, ← Nat.pow_add, ← Nat.pow_add, show (eI L + 400).toNat + ((0 : Int) + 400).toNat = 55 + (eI L - 55 + 800).toNat by omega]
    obtain ⟨k1, k2⟩ := cancel (c := 1099511627776) (d := 1099511627777) (d' := 1099511627775) (V_pos 0 (by decide)) hw hl
    have hn : mI T * 1099511627776 ≤ 2 * (mI L * (4 * 4503599627370496)) := rel0 b2 a1 (by decide)
    generalize mag * mI T = A at c3 c4 k1 k2
    generalize 2 * (mI L * (4 * 4503599627370496)) = B at c3 c4 k1 k2 hn
    generalize mI T = n at c3 c4 hn
    clear hq hw hl a1 a2 b1 b2
    exact ⟨k1 (rel1 (by decide) c3 hn), k2 (rel2 (by decide) c4 hn)⟩
theorem order_flip (k h : Nat) (e f : Int) (he : -400 ≤ e) (hf : -400 ≤ f) (hV : V k e < V h f) : (Datum.number false h f).order (.number false k e) = some .gt := by
  unfold Datum.order signed
  simp only [Nat.shiftLeft_eq, Bool.false_eq_true, if_false]
  have e1 : V k e = k * 2 ^ (e - min f e).toNat * 2 ^ (min f e + 400).toNat := by
    unfold V
    rw [Nat.mul_assoc, ← Nat.pow_add, show (e - min f e).toNat + (min f e + 400).toNat = (e + 400).toNat by omega]
  have e2 : V h f = h * 2 ^ (f - min f e).toNat * 2 ^ (min f e + 400).toNat := by
    unfold V
    rw [Nat.mul_assoc, ← Nat.pow_add, show (f - min f e).toNat + (min f e + 400).toNat = (f + 400).toNat by omega]
  rw [e1, e2] at hV
  have h3 := Nat.lt_of_mul_lt_mul_right hV
  congr 1
  rw [Int.compare_eq_gt]
  omega
theorem order_self (k : Nat) (e : Int) : (Datum.number false k e).order (.number false k e) = some .eq := by
  unfold Datum.order
  simp only []
  congr 1
  rw [Int.compare_eq_eq]
theorem order_zero (k : Nat) (e f : Int) (hk : 0 < k) : (Datum.number false 0 f).order (.number false k e) = some .lt := by
  unfold Datum.order signed
  simp only [Nat.shiftLeft_eq, Bool.false_eq_true, if_false]
  have hp : 0 < k * 2 ^ (e - min f e).toNat := Nat.mul_pos hk (Nat.two_pow_pos _)
  congr 1
  rw [Int.compare_eq_lt, Nat.zero_mul]
  exact_mod_cast hp
theorem sep {A1 A2 x1 x2 T1 T2 l1 l2 C P M : Nat} (hU1 : A1 * C ≤ x1 * P) (hU2 : x2 * M ≤ A2 * C)
    (hx1 : x1 * T1 * C ≤ l1 * P) (hx2 : l2 * M ≤ x2 * T2 * C) (hl : l1 * T2 * (P * P) < l2 * T1 * (M * M)) : A1 < A2 := by
  have a1 : A1 * (T1 * T2) * (C * C) ≤ l1 * T2 * (P * P) := by
    have h1 : A1 * C * (T1 * T2 * C) ≤ x1 * P * (T1 * T2 * C) := Nat.mul_le_mul_right _ hU1
    have h2 : x1 * T1 * C * (T2 * P) ≤ l1 * P * (T2 * P) := Nat.mul_le_mul_right _ hx1
    have e1 : A1 * C * (T1 * T2 * C) = A1 * (T1 * T2) * (C * C) := by ac_rfl
    have e2 : x1 * P * (T1 * T2 * C) = x1 * T1 * C * (T2 * P) := by ac_rfl
    have e3 : l1 * P * (T2 * P) = l1 * T2 * (P * P) := by ac_rfl
    rw [← e1, ← e3]
    exact Nat.le_trans h1 (e2 ▸ h2)
  have a2 : l2 * T1 * (M * M) ≤ A2 * (T1 * T2) * (C * C) := by
    have h1 : x2 * M * (T1 * T2 * C) ≤ A2 * C * (T1 * T2 * C) := Nat.mul_le_mul_right _ hU2
    have h2 : l2 * M * (T1 * M) ≤ x2 * T2 * C * (T1 * M) := Nat.mul_le_mul_right _ hx2
    have e1 : A2 * C * (T1 * T2 * C) = A2 * (T1 * T2) * (C * C) := by ac_rfl
    have e2 : x2 * M * (T1 * T2 * C) = x2 * T2 * C * (T1 * M) := by ac_rfl
    have e3 : l2 * M * (T1 * M) = l2 * T1 * (M * M) := by ac_rfl
    rw [← e1, ← e3]
    exact Nat.le_trans h2 (e2 ▸ h1)
  have h3 : A1 * ((T1 * T2) * (C * C)) < A2 * ((T1 * T2) * (C * C)) := by
    rw [← Nat.mul_assoc A1, ← Nat.mul_assoc A2]
    exact Nat.lt_of_le_of_lt a1 (Nat.lt_of_lt_of_le hl a2)
  exact Nat.lt_of_mul_lt_mul_right h3
theorem gap0 {m n U p q : Nat} (hU : 0 < U) (h : m < n) (hm : m * p < (m + 1) * q) : m * U * p < n * U * q := by
  have h1 : (m + 1) * U * q ≤ n * U * q := Nat.mul_le_mul_right _ (Nat.mul_le_mul_right _ h)
  refine Nat.lt_of_lt_of_le ?_ h1
  have e1 : m * U * p = m * p * U := by ac_rfl
  have e2 : (m + 1) * U * q = (m + 1) * q * U := by ac_rfl
  rw [e1, e2]
  exact Nat.mul_lt_mul_of_pos_right hm hU
theorem gap1 {m : Nat} (hm : m ≤ 4294967296) : m * (1099511627777 * 1099511627777) < (m + 1) * (1099511627775 * 1099511627775) := by omega
theorem gap {m n U : Nat} (hU : 0 < U) (h : m < n) (hm : m ≤ 4294967296) : m * U * (1099511627777 * 1099511627777) < n * U * (1099511627775 * 1099511627775) := gap0 hU h (gap1 hm)
theorem quo_lt (L1 T1 L2 T2 : Nat) (h1 : 0 < L1) (ht1 : L1 ≤ T1) (hT1 : T1 ≤ 65536) (h2 : 0 < L2) (ht2 : L2 ≤ T2) (hT2 : T2 ≤ 65536) (hlt : L1 * T2 < L2 * T1) :
    ∃ r1 r2, floatBits .quo .f64 (floatOfInt .f64 (L1 : Int)) (floatOfInt .f64 (T1 : Int)) = some r1 ∧ floatBits .quo .f64 (floatOfInt .f64 (L2 : Int)) (floatOfInt .f64 (T2 : Int)) = some r2 ∧ double.order r1 r2 = some .lt ∧ double.order r2 r1 = some .gt := by
  obtain ⟨m1, p1, hq1, a1, a2, a3, a4, a5, a6⟩ := div_nearh L1 T1 h1 ht1 hT1
  obtain ⟨m2, p2, hq2, b1, b2, b3, b4, b5, b6⟩ := div_nearh L2 T2 h2 ht2 hT2
  have l1 : 54 ≤ m1.log2 := le_log2 (by omega) (by rw [show (2 : Nat) ^ 54 = 4 * 4503599627370496 by decide]; exact a1)
  have l2 : m1.log2 ≤ 55 := log2_le (by omega) (by rw [show (2 : Nat) ^ (55 + 1) = 16 * 4503599627370496 by decide]; exact a2)
  have l3 : 54 ≤ m2.log2 := le_log2 (by omega) (by rw [show (2 : Nat) ^ 54 = 4 * 4503599627370496 by decide]; exact b1)
  have l4 : m2.log2 ≤ 55 := log2_le (by omega) (by rw [show (2 : Nat) ^ (55 + 1) = 16 * 4503599627370496 by decide]; exact b2)
  obtain ⟨k1, e1, hr1, -, x1, x2, v1, v2⟩ := nearest_nearh m1 p1 (by omega) (by omega) (by omega) (by omega) (by omega)
  obtain ⟨k2, e2, hr2, -, y1, y2, w1, w2⟩ := nearest_nearh m2 p2 (by omega) (by omega) (by omega) (by omega) (by omega)
  have hm : L1 * T2 ≤ 4294967296 := Nat.le_trans (Nat.mul_le_mul (Nat.le_trans ht1 hT1) hT2) (by decide)
  have hV : V k1 e1 < V k2 e2 := by
    refine sep (l1 := V L1 0) (l2 := V L2 0) v1 w2 a5 b6 ?_
    have h := gap (U := V 1 0) (V_pos 0 (by decide)) hlt hm
    have f1 : V L1 0 * T2 = L1 * T2 * V 1 0 := by rw [unit_mul]; ac_rfl
    have f2 : V L2 0 * T1 = L2 * T1 * V 1 0 := by rw [unit_mul]; ac_rfl
    rw [f1, f2]
    exact h
  refine ⟨_, _, hq1, hq2, ?_, ?_⟩
  · show (double.read _).order (double.read _) = _
    rw [hr1, hr2]
    exact order_lt _ _ _ _ (by omega) (by omega) hV
  · show (double.read _).order (double.read _) = _
    rw [hr1, hr2]
    exact order_flip _ _ _ _ (by omega) (by omega) hV
theorem cut_sticky (a r d : Nat) (hr : r < 4) (hd : 2 ≤ d) (hda : d ≤ a.log2 + 2) : Toward.even.cut false (4 * a + r) (d + 1) = Toward.even.cut false (2 * a + (r != 0).toNat) d := by
  obtain ⟨c, rfl⟩ : ∃ c, d = c + 2 := ⟨d - 2, by omega⟩
  by_cases ha : a = 0
  · subst ha
    have hc : c = 0 := by simp at hda; omega
    subst hc
    match r, hr with
    | 0, _ => decide
    | 1, _ => decide
    | 2, _ => decide
    | 3, _ => decide
  have ha0 : 0 < a := by omega
  have hlo := Nat.log2_self_le (Nat.pos_iff_ne_zero.1 ha0)
  have hhi := Nat.lt_log2_self (n := a)
  have l2 : (4 * a + r).log2 = a.log2 + 2 := log2_of (by omega) (by rw [Nat.pow_add]; omega) (by rw [show a.log2 + 2 + 1 = a.log2 + 1 + 2 by omega, Nat.pow_add _ _ 2]; omega)
  have l1 : (2 * a + (r != 0).toNat).log2 = a.log2 + 1 := by
    have : (r != 0).toNat ≤ 1 := Bool.toNat_le _
    exact log2_of (by omega) (by rw [Nat.pow_succ]; omega) (by rw [Nat.pow_succ]; omega)
  unfold Toward.cut
  simp only [l1, l2]
  rw [show min (c + 2 + 1) (a.log2 + 2 + 2) = c + 3 by omega, show min (c + 2) (a.log2 + 1 + 2) = c + 2 by omega, Nat.one_shiftLeft, Nat.one_shiftLeft]
  have e3 : 2 ^ (c + 3) = 8 * 2 ^ c := by rw [Nat.pow_add, Nat.mul_comm]
  have e2 : 2 ^ (c + 2) = 4 * 2 ^ c := by rw [Nat.pow_add, Nat.mul_comm]
  have hp : 0 < 2 ^ c := Nat.two_pow_pos _
  rw [e3, e2]
  generalize 2 ^ c = p at hp
  have hdm := Nat.div_add_mod a (2 * p)
  have hml := Nat.mod_lt a (show 0 < 2 * p by omega)
  generalize a / (2 * p) = l at hdm
  generalize a % (2 * p) = y at hdm hml
  have ht : (r != 0).toNat ≤ 1 := Bool.toNat_le _
  have k2 : 4 * a + r = 8 * p * l + (4 * y + r) := by rw [← hdm, show 8 * p * l = 4 * (2 * p * l) by rw [← Nat.mul_assoc, ← Nat.mul_assoc]]; omega
  have k1 : 2 * a + (r != 0).toNat = 4 * p * l + (2 * y + (r != 0).toNat) := by rw [← hdm, show 4 * p * l = 2 * (2 * p * l) by rw [← Nat.mul_assoc, ← Nat.mul_assoc]]; omega
  have g1 : (4 * y + r) / (8 * p) = 0 := Nat.div_eq_of_lt (by omega)
  have g2 : (2 * y + (r != 0).toNat) / (4 * p) = 0 := Nat.div_eq_of_lt (by omega)
  have g3 : (4 * y + r) % (8 * p) = 4 * y + r := Nat.mod_eq_of_lt (by omega)
  have g4 : (2 * y + (r != 0).toNat) % (4 * p) = 2 * y + (r != 0).toNat := Nat.mod_eq_of_lt (by omega)
  rw [k1, k2, Nat.mul_add_div (by omega), Nat.mul_add_div (by omega), Nat.mul_add_mod, Nat.mul_add_mod, g1, g2, g3, g4, Nat.add_zero]
  congr 2
  have q1 : decide (8 * p < 2 * (4 * y + r)) = decide (4 * p < 2 * (2 * y + (r != 0).toNat)) := by
    refine decide_eq_decide.2 ?_
    by_cases h : r = 0
    · subst h
      simp
      omega
    · have : (r != 0) = true := by simpa using h
      rw [this]
      simp only [Bool.toNat_true]
      omega
  have q2 : (8 * p == 2 * (4 * y + r)) = (4 * p == 2 * (2 * y + (r != 0).toNat)) := by
    rw [Bool.eq_iff_iff, beq_iff_eq, beq_iff_eq]
    by_cases h : r = 0
    · subst h
      simp
      omega
    · have : (r != 0) = true := by simpa using h
      rw [this]
      simp only [Bool.toNat_true]
      omega
  rw [q1, q2]
theorem nearest_sticky (a r : Nat) (p : Int) (hr : r < 4) (ha : 9007199254740992 ≤ a) (hp : -300 ≤ p) : double.nearest false (4 * a + r) p = double.nearest false (2 * a + (r != 0).toNat) (p + 1) := by
  have hlo := Nat.log2_self_le (show a ≠ 0 by omega)
  have hhi := Nat.lt_log2_self (n := a)
  have h53 : 53 ≤ a.log2 := le_log2 (by omega) (by rw [show (2 : Nat) ^ 53 = 9007199254740992 by decide]; exact ha)
  have l2 : (4 * a + r).log2 = a.log2 + 2 := log2_of (by omega) (by rw [Nat.pow_add]; omega) (by rw [show a.log2 + 2 + 1 = a.log2 + 1 + 2 by omega, Nat.pow_add _ _ 2]; omega)
  have l1 : (2 * a + (r != 0).toNat).log2 = a.log2 + 1 := by
    have : (r != 0).toNat ≤ 1 := Bool.toNat_le _
    exact log2_of (by omega) (by rw [Nat.pow_succ]; omega) (by rw [Nat.pow_succ]; omega)
  have lp : double.leastPlace = -1074 := by decide
  have fb : double.fractionBits = 52 := rfl
  unfold Format.nearest
  rw [if_neg (by omega), if_neg (by omega)]
  simp only [l1, l2, lp, fb]
  have e1 : max (p + ((a.log2 + 2 : Nat) : Int) - ((52 : Nat) : Int)) (-1074) = p + a.log2 - 50 := by omega
  have e2 : max (p + 1 + ((a.log2 + 1 : Nat) : Int) - ((52 : Nat) : Int)) (-1074) = p + a.log2 - 50 := by omega
  rw [e1, e2, show (p - (p + (a.log2 : Int) - 50)).toNat = 0 by omega, show (p + 1 - (p + (a.log2 : Int) - 50)).toNat = 0 by omega, show (p + (a.log2 : Int) - 50 - p).toNat = (a.log2 - 51) + 1 by omega, show (p + (a.log2 : Int) - 50 - (p + 1)).toNat = a.log2 - 51 by omega]
  rw [Nat.shiftLeft_zero, Nat.shiftLeft_zero, cut_sticky a r (a.log2 - 51) hr (by omega) (by omega)]
theorem twice (M n : Nat) (hn : 0 < n) : ∃ r, r < 4 ∧ 2 * (2 * M / n) + (2 * M % n != 0).toNat = 4 * (M / n) + r ∧ (r != 0) = (M % n != 0) := by
  have hdm := Nat.div_add_mod M n
  have hml := Nat.mod_lt M hn
  generalize M / n = q at hdm
  generalize M % n = r0 at hdm hml
  subst hdm
  have e : 2 * (n * q + r0) = n * (2 * q) + 2 * r0 := by rw [Nat.mul_add, Nat.mul_left_comm]
  rw [e, Nat.mul_add_div hn, Nat.mul_add_mod]
  by_cases h : 2 * r0 < n
  · rw [Nat.div_eq_of_lt h, Nat.mod_eq_of_lt h]
    by_cases h0 : r0 = 0
    · subst h0
      exact ⟨0, by omega, by simp; omega, by simp⟩
    · have b1 : (2 * r0 != 0) = true := by rw [bne_iff_ne]; omega
      have b2 : (r0 != 0) = true := by rw [bne_iff_ne]; omega
      rw [b1, b2]
      exact ⟨1, by omega, by simp; omega, by simp⟩
  · have h1 : 2 * r0 / n = 1 := by
      rw [Nat.div_eq_iff hn]
      omega
    have h2 : 2 * r0 % n = 2 * r0 - n := by
      rw [Nat.mod_eq_sub_mod (by omega), Nat.mod_eq_of_lt (by omega)]
    rw [h1, h2]
    have b2 : (r0 != 0) = true := by rw [bne_iff_ne]; omega
    rw [b2]
    by_cases h0 : 2 * r0 - n = 0
    · rw [h0]
      exact ⟨2, by omega, by simp; omega, by simp⟩
    · have b1 : (2 * r0 - n != 0) = true := by rw [bne_iff_ne]; exact h0
      rw [b1]
      exact ⟨3, by omega, by simp; omega, by simp⟩
theorem same_frac {M1 n1 M2 n2 : Nat} (h1 : 0 < n1) (h2 : 0 < n2) (h : M1 * n2 = M2 * n1) : M1 / n1 = M2 / n2 ∧ (M1 % n1 != 0) = (M2 % n2 != 0) := by
  have d1 : M1 * n2 / (n1 * n2) = M1 / n1 := Nat.mul_div_mul_right _ _ h2
  have d2 : M2 * n1 / (n2 * n1) = M2 / n2 := Nat.mul_div_mul_right _ _ h1
  have r1 : M1 * n2 % (n1 * n2) = M1 % n1 * n2 := Nat.mul_mod_mul_right _ _ _
  have r2 : M2 * n1 % (n2 * n1) = M2 % n2 * n1 := Nat.mul_mod_mul_right _ _ _
  rw [h, Nat.mul_comm n1 n2] at d1 r1
  refine ⟨by rw [← d1, d2], ?_⟩
  rw [r2] at r1
  rw [Bool.eq_iff_iff, bne_iff_ne, bne_iff_ne]
  constructor
  · intro hh e
    rw [e, Nat.zero_mul] at r1
    rcases Nat.mul_eq_zero.1 r1.symm with e1 | e1
    · exact hh e1
    · omega
  · intro hh e
    rw [e, Nat.zero_mul] at r1
    rcases Nat.mul_eq_zero.1 r1 with e1 | e1
    · exact hh e1
    · omega
theorem quo_of (L T : Nat) (hL : 0 < L) (hL2 : L ≤ 65536) (hT0 : 0 < T) (hT : T ≤ 65536) :
    floatBits .quo .f64 (floatOfInt .f64 (L : Int)) (floatOfInt .f64 (T : Int)) = some (double.nearest false (2 * (mI L * (4 * 4503599627370496) / mI T) + (mI L * (4 * 4503599627370496) % mI T != 0).toNat) (eI L - eI T - 55)) := by
  obtain ⟨a1, a2, a3, a4, a5⟩ := mI_bounds L hL hL2
  obtain ⟨b1, b2, b3, b4, b5⟩ := mI_bounds T hT0 hT
  show ((double.read (floatOfInt .f64 (L : Int))).quotient (52 + 2) (double.read (floatOfInt .f64 (T : Int)))).map double.write = _
  rw [read_int L hL hL2, read_int T hT0 hT]
  show ((Datum.number false (mI L) (eI L)).quotient 54 (.number false (mI T) (eI T))).map double.write = _
  rw [quot_eq _ _ _ _ (log2_52 a1 a2) (log2_52 b1 b2) (by omega)]
  rfl
theorem quo_twice {m1 n1 m2 n2 W : Nat} (hW : W = 18014398509481984) (hn1 : 0 < n1) (hn2 : 0 < n2) (hm2 : n2 ≤ 2 * m2) (h : m1 * n2 = 2 * (m2 * n1)) (p : Int) (hp : -300 ≤ p) :
    double.nearest false (2 * (m1 * W / n1) + (m1 * W % n1 != 0).toNat) p = double.nearest false (2 * (m2 * W / n2) + (m2 * W % n2 != 0).toNat) (p + 1) := by
  obtain ⟨k1, k2⟩ := same_frac (M1 := m1 * W) (n1 := n1) (M2 := 2 * (m2 * W)) (n2 := n2) hn1 hn2 (by
    rw [Nat.mul_right_comm, h]
    ac_rfl)
  rw [k1, k2]
  obtain ⟨r, hr, e, hb⟩ := twice (m2 * W) n2 hn2
  rw [e, ← hb]
  refine nearest_sticky _ r p hr ?_ hp
  rw [Nat.le_div_iff_mul_le hn2]
  have h1 : n2 * 9007199254740992 ≤ 2 * m2 * 9007199254740992 := Nat.mul_le_mul_right _ hm2
  rw [hW]
  omega
theorem quo_same (L1 T1 L2 T2 : Nat) (h1 : 0 < L1) (ht1 : L1 ≤ T1) (hT1 : T1 ≤ 65536) (h2 : 0 < L2) (ht2 : L2 ≤ T2) (hT2 : T2 ≤ 65536) (he : L1 * T2 = L2 * T1) :
    floatBits .quo .f64 (floatOfInt .f64 (L1 : Int)) (floatOfInt .f64 (T1 : Int)) = floatBits .quo .f64 (floatOfInt .f64 (L2 : Int)) (floatOfInt .f64 (T2 : Int)) := by
  rw [quo_of L1 T1 h1 (by omega) (by omega) hT1, quo_of L2 T2 h2 (by omega) (by omega) hT2]
  obtain ⟨a1, a2, a3, a4, -⟩ := mI_bounds L1 h1 (by omega)
  obtain ⟨b1, b2, b3, b4, -⟩ := mI_bounds T1 (by omega) hT1
  obtain ⟨c1, c2, c3, c4, -⟩ := mI_bounds L2 h2 (by omega)
  obtain ⟨d1, d2, d3, d4, -⟩ := mI_bounds T2 (by omega) hT2
  have f : ∀ n : Nat, n ≤ 65536 → 0 < n → ∃ x, x + n.log2 = 52 ∧ mI n = n * 2 ^ x ∧ eI n = -(x : Int) := fun n hn h0 => by
    have := log2_le (k := 16) h0 (by omega)
    exact ⟨52 - n.log2, by omega, rfl, by unfold eI; omega⟩
  obtain ⟨xa, -, ma, ea⟩ := f L1 (by omega) h1
  obtain ⟨xb, -, mb, eb⟩ := f T1 hT1 (by omega)
  obtain ⟨xc, -, mc, ec⟩ := f L2 (by omega) h2
  obtain ⟨xd, -, md, ed⟩ := f T2 hT2 (by omega)
  have p1 : mI L1 * mI T2 = L1 * T2 * 2 ^ (xa + xd) := by rw [ma, md, Nat.pow_add]; ac_rfl
  have p2 : mI L2 * mI T1 = L1 * T2 * 2 ^ (xc + xb) := by rw [mc, mb, Nat.pow_add, he]; ac_rfl
  have hpos : 0 < L1 * T2 := Nat.mul_pos h1 (by omega)
  rw [ea, eb, ec, ed]
  have q1 : xa + xd ≤ xc + xb + 1 := by
    have hh : mI L1 * mI T2 < 4 * (mI L2 * mI T1) := by
      have g1 : mI L1 * mI T2 < 9007199254740992 * 9007199254740992 := Nat.mul_lt_mul_of_lt_of_le a2 (Nat.le_of_lt d2) (by decide)
      have g2 : 4503599627370496 * 4503599627370496 ≤ mI L2 * mI T1 := Nat.mul_le_mul c1 b1
      omega
    rw [p1, p2, Nat.mul_left_comm 4] at hh
    have h3 := Nat.lt_of_mul_lt_mul_left hh
    have h4 : 2 ^ (xa + xd) < 2 ^ (xc + xb + 2) := by rw [Nat.pow_add 2 (xc + xb) 2]; omega
    have := (Nat.pow_lt_pow_iff_right (a := 2) (by decide)).1 h4
    omega
  have q2 : xc + xb ≤ xa + xd + 1 := by
    have hh : mI L2 * mI T1 < 4 * (mI L1 * mI T2) := by
      have g1 : mI L2 * mI T1 < 9007199254740992 * 9007199254740992 := Nat.mul_lt_mul_of_lt_of_le c2 (Nat.le_of_lt b2) (by decide)
      have g2 : 4503599627370496 * 4503599627370496 ≤ mI L1 * mI T2 := Nat.mul_le_mul a1 d1
      omega
    rw [p1, p2, Nat.mul_left_comm 4] at hh
    have h3 := Nat.lt_of_mul_lt_mul_left hh
    have h4 : 2 ^ (xc + xb) < 2 ^ (xa + xd + 2) := by rw [Nat.pow_add 2 (xa + xd) 2]; omega
    have := (Nat.pow_lt_pow_iff_right (a := 2) (by decide)).1 h4
    omega
  have hx1 : xa ≤ 52 := by omega
  have hx2 : xb ≤ 52 := by omega
  have hx3 : xc ≤ 52 := by omega
  have hx4 : xd ≤ 52 := by omega
  clear ma mb mc md f
  generalize mI L1 = m1 at *
  generalize mI T1 = n1 at *
  generalize mI L2 = m2 at *
  generalize mI T2 = n2 at *
  rcases (show xa + xd = xc + xb ∨ xa + xd = xc + xb + 1 ∨ xc + xb = xa + xd + 1 by omega) with h | h | h
  · rw [h, ← p2] at p1
    obtain ⟨k1, k2⟩ := same_frac (M1 := m1 * (4 * 4503599627370496)) (n1 := n1) (M2 := m2 * (4 * 4503599627370496)) (n2 := n2) (by omega) (by omega) (by rw [Nat.mul_right_comm, p1, Nat.mul_right_comm])
    rw [k1, k2, show -(xa : Int) - -(xb : Int) - 55 = -(xc : Int) - -(xd : Int) - 55 by omega]
  · have hm : m1 * n2 = 2 * (m2 * n1) := by rw [p1, p2, h, Nat.pow_succ]; ac_rfl
    rw [quo_twice (by decide) (by omega) (by omega) (by omega) hm _ (by omega), show -(xa : Int) - -(xb : Int) - 55 + 1 = -(xc : Int) - -(xd : Int) - 55 by omega]
  · have hm : m2 * n1 = 2 * (m1 * n2) := by rw [p1, p2, h, Nat.pow_succ]; ac_rfl
    rw [quo_twice (m1 := m2) (n1 := n2) (m2 := m1) (n2 := n1) (by decide) (by omega) (by omega) (by omega) hm _ (by omega), show -(xc : Int) - -(xd : Int) - 55 + 1 = -(xa : Int) - -(xb : Int) - 55 by omega]
end Go.Proofs.Ytcjeegomonegpaa.Fl
namespace Go.Proofs.Ytcjeegomonegpaa.PLivePlays
open Go.RowKit Go.Lib Go.Sort
set_option linter.unusedVariables false
set_option linter.unusedSimpArgs false
structure StLays (P : Program) : Prop where
  mixed : P.follows .mixedOrders = true
  f87 : P.funcs[87]? = some Try.f87
  f85 : P.funcs[85]? = some Try.f85
  f78 : P.funcs[78]? = some Try.f78
  t0 : P.underlying 0 = some (TypeDesc.tuple #[])
  a0 : ∀ w, (isAgg 0).run P w = .ok false w
  z0 : ∀ w, (Go.sizeOf 0).run P w = .ok 1 w
  v0 : ∀ w, (zeroValue 0).run P w = .ok (Value.tuple #[]) w
  t3 : P.underlying 3 = some (TypeDesc.int IntKind.i64)
  a3 : ∀ w, (isAgg 3).run P w = .ok false w
  z3 : ∀ w, (Go.sizeOf 3).run P w = .ok 1 w
  v3 : ∀ w, (zeroValue 3).run P w = .ok (Value.int IntKind.i64 0) w
  t4 : P.underlying 4 = some (TypeDesc.bool)
  a4 : ∀ w, (isAgg 4).run P w = .ok false w
  z4 : ∀ w, (Go.sizeOf 4).run P w = .ok 1 w
  v4 : ∀ w, (zeroValue 4).run P w = .ok (Value.bool false) w
  t28 : P.underlying 28 = some (TypeDesc.slice 23)
  a28 : ∀ w, (isAgg 28).run P w = .ok false w
  z28 : ∀ w, (Go.sizeOf 28).run P w = .ok 1 w
  v28 : ∀ w, (zeroValue 28).run P w = .ok (Value.slice none 0 0) w
  t74 : P.underlying 74 = some (TypeDesc.func #[23, 23] #[3] false)
  a74 : ∀ w, (isAgg 74).run P w = .ok false w
  z74 : ∀ w, (Go.sizeOf 74).run P w = .ok 1 w
  v74 : ∀ w, (zeroValue 74).run P w = .ok Value.nilFunc w
  t100 : P.underlying 100 = some (TypeDesc.int IntKind.u64)
  a100 : ∀ w, (isAgg 100).run P w = .ok false w
  z100 : ∀ w, (Go.sizeOf 100).run P w = .ok 1 w
  v100 : ∀ w, (zeroValue 100).run P w = .ok (Value.int IntKind.u64 0) w
theorem stLays : StLays Try.prog where
  mixed := sortRow.mixed
  f87 := Try.func87
  f85 := Try.func85
  f78 := Try.func78
  t0 := Try.underlying0
  a0 := Try.isAgg0
  z0 := Try.sizeOf0
  v0 := Try.zeroValue0
  t3 := Try.underlying3
  a3 := Try.isAgg3
  z3 := Try.sizeOf3
  v3 := Try.zeroValue3
  t4 := Try.underlying4
  a4 := Try.isAgg4
  z4 := Try.sizeOf4
  v4 := Try.zeroValue4
  t28 := Try.underlying28
  a28 := Try.isAgg28
  z28 := Try.sizeOf28
  v28 := Try.zeroValue28
  t74 := Try.underlying74
  a74 := Try.isAgg74
  z74 := Try.sizeOf74
  v74 := Try.zeroValue74
  t100 := Try.underlying100
  a100 := Try.isAgg100
  z100 := Try.sizeOf100
  v100 := Try.zeroValue100
section
variable {P : Program} {α : Type} [Inhabited α]
def swapR (a b : Nat) : Nat → Nat → Array α → Array α
  | 0, _, d => d
  | n + 1, i, d => swapR a b n (i + 1) (swp d (a + i) (b + i))
theorem size_swapR (a b : Nat) : ∀ n i (d : Array α), (swapR a b n i d).size = d.size
  | 0, _, _ => rfl
  | n + 1, i, d => by
    rw [swapR, size_swapR a b n, size_swp]
set_option maxHeartbeats 4000000 in
set_option maxRecDepth 1000000 in
theorem swapRange_w (L : StLays P) (k : Nat) (aE : ∀ w, (isAgg 23).run P w = .ok true w) (zE : ∀ w, (Go.sizeOf 23).run P w = .ok k w) (enc : α → List Value) (g : Nat) (cb : Array Value) (blk off cap a b n : Nat) (d0 d : Array α) (w0 w : World)
    (R : RowK enc k w0 blk off d0) (hs : d0.size = d.size) (S : SWK enc k w0 blk off d w) (ha : a + n ≤ d.size) (hb : b + n ≤ d.size) (hsz : d.size < 4611686018427387904) :
    Calls P 87 #[.slice (some ⟨blk, off, none⟩) d.size cap, .int .i64 a, .int .i64 b, .int .i64 n, .func (.func g) #[] cb] w fun e w' => e = .returned (.tuple #[]) ∧ SWK enc k w0 blk off (swapR a b n 0 d) w' := by
  have mixed := L.mixed; have t0 := L.t0; have a0 := L.a0; have z0 := L.z0; have v0 := L.v0; have t3 := L.t3; have a3 := L.a3; have z3 := L.z3; have v3 := L.v3; have t4 := L.t4; have a4 := L.a4; have z4 := L.z4; have v4 := L.v4; have t28 := L.t28; have a28 := L.a28; have z28 := L.z28; have v28 := L.v28; have t74 := L.t74; have a74 := L.a74; have z74 := L.z74; have v74 := L.v74
  have FG := L.f87
  have S0 : Aside (SWK enc k w0 blk off d w) := S
  clear S
  go_enter FG, Try.ntmps87
  go_wp2
  go_loopg [10] n (fun kx s10 wr => ∃ (i : Nat) (dk : Array α), s10 = .int .i64 i ∧ i + kx = n ∧ dk.size = d.size ∧ Aside (SWK enc k w0 blk off dk wr) ∧ swapR a b kx i dk = swapR a b n 0 d)
  case atStart => exact ⟨0, d, rfl, by omega, rfl, S0, rfl⟩
  case round =>
    clear S0
    obtain ⟨i, dk, rfl, hkx, hds, S1, heq⟩ := hrel
    by_cases hlt : i < n
    · have hltz : (i : Int) < (n : Int) := by omega
      go_wp2_with fail
      have ea44 : ((a : Int) + (i : Int)).toNat = a + i := by omega
      have pa44 : (0 : Int) ≤ (a : Int) + (i : Int) := by omega
      have ba44 : (a : Int) + (i : Int) < (d.size : Int) := by omega
      have ra44 : IntKind.i64.wrap ((a : Int) + (i : Int)) = (a : Int) + (i : Int) := by rw [IntKind.wrap_i64]; omega
      have ec44 : ((b : Int) + (i : Int)).toNat = b + i := by omega
      have pc44 : (0 : Int) ≤ (b : Int) + (i : Int) := by omega
      have bc44 : (b : Int) + (i : Int) < (d.size : Int) := by omega
      have rc44 : IntKind.i64.wrap ((b : Int) + (i : Int)) = (b : Int) + (i : Int) := by rw [IntKind.wrap_i64]; omega
      have S2 : Aside (SWK enc k w0 blk off (swp dk (a + i) (b + i)) ((wr.drew.setCells blk (off + (a + i) * k) (enc dk[b + i]!)).setCells blk (off + (b + i) * k) (enc dk[a + i]!))) := S1.out.swapped R (a + i) (b + i) (by omega) (by omega)
      have l44a := S1.out.ld1 R (by omega) P (a + i) (by omega)
      have l44b := S1.out.ld1 R (by omega) P (b + i) (by omega)
      have s44a := S1.out.st1 R (by omega) P (a + i) (by omega) dk[b + i]!
      have s44b := S1.out.st2 R (by omega) P (a + i) (b + i) (by omega) (by omega) dk[b + i]! dk[a + i]!
      have n44a : (enc dk[a + i]!).length = k := R.hk _
      have n44b : (enc dk[b + i]!).length = k := R.hk _
      generalize enc dk[a + i]! = cI44 at S2 l44a s44b n44a
      generalize enc dk[b + i]! = cJ44 at S2 l44b s44a s44b n44b
      clear S1
      go_wp2_with fail
      go_big_region_o
      clear l44a l44b s44a s44b
      generalize (wr.drew.setCells blk (off + (a + i) * k) cJ44).setCells blk (off + (b + i) * k) cI44 = w2 at S2 ⊢
      go_wp2
      cases gk with
      | zero => omega
      | succ gk' =>
        go_roundg gk'
        case measure => omega
        case rel =>
          exact ⟨i + 1, swp dk (a + i) (b + i), by go_num, by omega, by rw [size_swp]; exact hds, S2, heq⟩
    · have hltz : ¬ (i : Int) < (n : Int) := by omega
      have hk0 : gk = 0 := by omega
      subst hk0
      go_wp2
      go_end0
      refine ⟨rfl, ?_⟩
      rw [← heq]
      exact S1.out
end
end Go.Proofs.Ytcjeegomonegpaa.PLivePlays
namespace Go.Proofs.Ytcjeegomonegpaa.PLivePlays
open Go.RowKit Go.Lib Go.Sort Go.Proofs.YtcjeegomonegpaaW.PrintWords
set_option linter.unusedVariables false
set_option linter.unusedSimpArgs false
section
variable {P : Program} {α : Type} [Inhabited α]
def rotR (m : Nat) : Nat → Nat → Nat → Array α → Array α
  | 0, i, _, d => swapR (m - i) m i 0 d
  | f + 1, i, j, d => if i = j then swapR (m - i) m i 0 d else if i > j then rotR m f (i - j) j (swapR (m - i) m j 0 d) else rotR m f i (j - i) (swapR (m - i) (m + j - i) i 0 d)
theorem size_rotR (m : Nat) : ∀ f i j (d : Array α), (rotR m f i j d).size = d.size
  | 0, i, j, d => size_swapR _ _ _ _ _
  | f + 1, i, j, d => by
    rw [rotR]
    split
    · exact size_swapR _ _ _ _ _
    · split
      · rw [size_rotR m f, size_swapR]
      · rw [size_rotR m f, size_swapR]
def rotate (d : Array α) (a m b : Nat) : Array α := rotR m (b - a) (m - a) (b - m) d
theorem size_rotate (d : Array α) (a m b : Nat) : (rotate d a m b).size = d.size := size_rotR _ _ _ _ _
set_option maxHeartbeats 4000000 in
set_option maxRecDepth 1000000 in
theorem rotate_w (L : StLays P) (k : Nat) (aE : ∀ w, (isAgg 23).run P w = .ok true w) (zE : ∀ w, (Go.sizeOf 23).run P w = .ok k w) (enc : α → List Value) (g : Nat) (cb : Array Value) (blk off cap a m b : Nat) (d0 d : Array α) (w0 w : World)
    (R : RowK enc k w0 blk off d0) (hs : d0.size = d.size) (S : SWK enc k w0 blk off d w) (ham : a < m) (hmb : m < b) (hb : b ≤ d.size) (hsz : d.size < 4611686018427387904) :
    Calls P 85 #[.slice (some ⟨blk, off, none⟩) d.size cap, .int .i64 a, .int .i64 m, .int .i64 b, .func (.func g) #[] cb] w fun e w' => e = .returned (.tuple #[]) ∧ SWK enc k w0 blk off (rotate d a m b) w' := by
  have mixed := L.mixed; have t0 := L.t0; have a0 := L.a0; have z0 := L.z0; have v0 := L.v0; have t3 := L.t3; have a3 := L.a3; have z3 := L.z3; have v3 := L.v3; have t4 := L.t4; have a4 := L.a4; have z4 := L.z4; have v4 := L.v4; have t28 := L.t28; have a28 := L.a28; have z28 := L.z28; have v28 := L.v28; have t74 := L.t74; have a74 := L.a74; have z74 := L.z74; have v74 := L.v74
  have FG := L.f85
  have e87 : ∀ args w, (callFunc 87 args).run P w = .ok (.enter 87 args) w := enters_of L.f87 (by kernel_rfl) rfl
  have S0 : Aside (SWK enc k w0 blk off d w) := S
  have HC : Aside (∀ (x y n : Nat) (dk : Array α) (W : World), dk.size = d.size → SWK enc k w0 blk off dk W → x + n ≤ d.size → y + n ≤ d.size → Calls P 87 #[.slice (some ⟨blk, off, none⟩) d.size cap, .int .i64 x, .int .i64 y, .int .i64 n, .func (.func g) #[] cb] W fun e w' => e = .returned (.tuple #[]) ∧ SWK enc k w0 blk off (swapR x y n 0 dk) w') := fun x y n dk W h1 h2 h3 h4 => by
    have := swapRange_w L k aE zE enc g cb blk off cap x y n d0 dk w0 W R (by omega) h2 (by omega) (by omega) (by omega)
    rw [h1] at this
    exact this
  clear S R
  go_enter FG, Try.ntmps85
  go_wp2
  go_loopg [10, 11] (b - a) (fun kx s10 s11 wr => ∃ (i j : Nat) (dk : Array α), s10 = .int .i64 i ∧ s11 = .int .i64 j ∧ 0 < i ∧ 0 < j ∧ i ≤ m ∧ m + j ≤ b ∧ i + j ≤ kx ∧ dk.size = d.size ∧ Aside (SWK enc k w0 blk off dk wr) ∧ rotR m kx i j dk = rotate d a m b)
  case atStart => exact ⟨m - a, b - m, d, by go_num, by go_num, by omega, by omega, by omega, by omega, by omega, rfl, S0, rfl⟩
  case round =>
    clear S0
    obtain ⟨i, j, dk, rfl, rfl, hi0, hj0, him, hmj, hkx, hds, S1, heq⟩ := hrel
    obtain ⟨gk', rfl⟩ : ∃ q, gk = q + 1 := ⟨gk - 1, by omega⟩
    rw [rotR] at heq
    have HEQ := Aside0.mk heq
    clear heq
    by_cases hij : i = j
    · subst hij
      have h1 := HC.out (m - i) m i dk wr hds S1.out (by omega) (by omega)
      rw [show ((m - i : Nat) : Int) = (m : Int) - (i : Int) by omega] at h1
      have H1 := Aside0.mk h1
      have hne : ((i : Int) != (i : Int)) = false := by simp
      clear h1
      go_wp2_with (go_at_fn 87; refine H1.out.mono ?_; rintro e w' ⟨rfl, hS⟩)
      go_end0
      refine ⟨rfl, ?_⟩
      have h := HEQ.out
      rw [if_pos trivial] at h
      rw [← h]
      exact hS
    · have hne : ((i : Int) != (j : Int)) = true := by simp; omega
      by_cases hgt : i > j
      · have h1 := HC.out (m - i) m j dk wr hds S1.out (by omega) (by omega)
        rw [show ((m - i : Nat) : Int) = (m : Int) - (i : Int) by omega] at h1
        have H1 := Aside0.mk h1
        have hgz : (j : Int) < (i : Int) := by omega
        clear h1
        go_wp2_with (go_at_fn 87; refine H1.out.mono ?_; rintro e w' ⟨rfl, hS⟩)
        have HS := Aside0.mk hS
        clear hS
        go_roundg gk'
        case measure => omega
        case rel =>
          have h := HEQ.out
          rw [if_neg hij, if_pos hgt] at h
          exact ⟨i - j, j, _, by go_num, rfl, by omega, hj0, by omega, hmj, by omega, by rw [size_swapR]; exact hds, HS.out, h⟩
      · have h1 := HC.out (m - i) (m + j - i) i dk wr hds S1.out (by omega) (by omega)
        rw [show ((m - i : Nat) : Int) = (m : Int) - (i : Int) by omega, show ((m + j - i : Nat) : Int) = (m : Int) + (j : Int) - (i : Int) by omega] at h1
        have H1 := Aside0.mk h1
        have hgz : ¬ (j : Int) < (i : Int) := by omega
        clear h1
        go_wp2_with (go_at_fn 87; refine H1.out.mono ?_; rintro e w' ⟨rfl, hS⟩)
        have HS := Aside0.mk hS
        clear hS
        go_roundg gk'
        case measure => omega
        case rel =>
          have h := HEQ.out
          rw [if_neg hij, if_neg hgt] at h
          exact ⟨i, j - i, _, rfl, by go_num, hi0, by omega, him, by omega, by omega, by rw [size_swapR]; exact hds, HS.out, h⟩
end
end Go.Proofs.Ytcjeegomonegpaa.PLivePlays
namespace Go.Proofs.Ytcjeegomonegpaa.PLivePlays
open Go.RowKit Go.Lib Go.Sort Go.Proofs.YtcjeegomonegpaaW.PrintWords
set_option linter.unusedVariables false
set_option linter.unusedSimpArgs false
section
variable {P : Program} {α : Type} [Inhabited α]
def bs (p : Nat → Bool) : Nat → Nat → Nat → Nat
  | 0, i, _ => i
  | f + 1, i, j => if i < j then (if p ((i + j) / 2) then bs p f ((i + j) / 2 + 1) j else bs p f i ((i + j) / 2)) else i
theorem bs_le (p : Nat → Bool) : ∀ f i j, i ≤ j → i ≤ bs p f i j ∧ bs p f i j ≤ j
  | 0, i, j, h => ⟨Nat.le_refl _, h⟩
  | f + 1, i, j, h => by
    rw [bs]
    split
    · split
      · have := bs_le p f ((i + j) / 2 + 1) j (by omega)
        omega
      · have := bs_le p f i ((i + j) / 2) (by omega)
        omega
    · omega
theorem bs_end (p : Nat → Bool) (f i j : Nat) (h : ¬ i < j) : bs p f i j = i := by
  cases f with
  | zero => rfl
  | succ f => rw [bs, if_neg h]
def bubUp : Nat → Nat → Array α → Array α
  | 0, _, d => d
  | n + 1, k, d => bubUp n (k + 1) (swp d k (k + 1))
def bubDn : Nat → Nat → Array α → Array α
  | 0, _, d => d
  | n + 1, k, d => bubDn n (k - 1) (swp d k (k - 1))
theorem size_bubUp : ∀ n k (d : Array α), (bubUp n k d).size = d.size
  | 0, _, _ => rfl
  | n + 1, k, d => by rw [bubUp, size_bubUp n, size_swp]
theorem size_bubDn : ∀ n k (d : Array α), (bubDn n k d).size = d.size
  | 0, _, _ => rfl
  | n + 1, k, d => by rw [bubDn, size_bubDn n, size_swp]
def symSt (lt : α → α → Bool) (d : Array α) (a m b : Nat) : Nat :=
  if m > (a + b) / 2 then bs (fun c => !lt d[(a + b) / 2 + m - 1 - c]! d[c]!) (b - a) ((a + b) / 2 + m - b) ((a + b) / 2) else bs (fun c => !lt d[(a + b) / 2 + m - 1 - c]! d[c]!) (b - a) a m
def symM (lt : α → α → Bool) : Nat → Array α → Nat → Nat → Nat → Array α
  | 0, d, _, _, _ => d
  | f + 1, d, a, m, b =>
    if m - a = 1 then bubUp (bs (fun h => lt d[h]! d[a]!) (b - m) m b - 1 - a) a d
    else if b - m = 1 then bubDn (m - bs (fun h => !lt d[m]! d[h]!) (m - a) a m) m d
    else
      let st := symSt lt d a m b
      let en := (a + b) / 2 + m - st
      let d1 := if st < m ∧ m < en then rotate d st m en else d
      let d2 := if a < st ∧ st < (a + b) / 2 then symM lt f d1 a st ((a + b) / 2) else d1
      if (a + b) / 2 < en ∧ en < b then symM lt f d2 ((a + b) / 2) en b else d2
theorem size_symM (lt : α → α → Bool) : ∀ f (d : Array α) a m b, (symM lt f d a m b).size = d.size
  | 0, _, _, _, _ => rfl
  | f + 1, d, a, m, b => by
    rw [symM]
    split
    · exact size_bubUp _ _ _
    · split
      · exact size_bubDn _ _ _
      · simp only
        split <;> (try rw [size_symM lt f]) <;> split <;> (try rw [size_symM lt f]) <;> split <;> (try rw [size_rotate]) <;> (try rfl)
set_option maxHeartbeats 8000000 in
set_option maxRecDepth 1000000 in
theorem symA_w (L : StLays P) (k : Nat) (aE : ∀ w, (isAgg 23).run P w = .ok true w) (zE : ∀ w, (Go.sizeOf 23).run P w = .ok k w) (enc : α → List Value) (cf : α → α → Int) (g : Nat) (cb : Array Value) (blk off cap a m b : Nat) (d0 d : Array α) (w0 w : World)
    (eg : ∀ args w, (callFunc g args).run P w = .ok (.enter g args) w) (hcmp : CmpLays P g cb enc k cf blk off d0.size w0) (R : RowK enc k w0 blk off d0) (hs : d0.size = d.size) (S : SWK enc k w0 blk off d w) (ham : a < m) (hmb : m < b) (hb : b ≤ d.size) (hsz : d.size < 4611686018427387904)
    (h1 : m - a = 1) :
    Calls P 78 #[.slice (some ⟨blk, off, none⟩) d.size cap, .int .i64 a, .int .i64 m, .int .i64 b, .func (.func g) #[] cb] w fun e w' => e = .returned (.tuple #[]) ∧ SWK enc k w0 blk off (bubUp (bs (fun h => ltOf cf d[h]! d[a]!) (b - m) m b - 1 - a) a d) w' := by
  have mixed := L.mixed; have t0 := L.t0; have a0 := L.a0; have z0 := L.z0; have v0 := L.v0; have t3 := L.t3; have a3 := L.a3; have z3 := L.z3; have v3 := L.v3; have t4 := L.t4; have a4 := L.a4; have z4 := L.z4; have v4 := L.v4; have t28 := L.t28; have a28 := L.a28; have z28 := L.z28; have v28 := L.v28; have t74 := L.t74; have a74 := L.a74; have z74 := L.z74; have v74 := L.v74; have t100 := L.t100; have a100 := L.a100; have z100 := L.z100; have v100 := L.v100
  have FG := L.f78
  have S0 : Aside (SWK enc k w0 blk off d w) := S
  have HC := Aside0.mk hcmp
  clear S hcmp
  have hz1 : (m : Int) - (a : Int) = 1 := by omega
  go_enter FG, Try.ntmps78
  go_wp2
  go_loopg [10, 11] (b - m) (fun kx s10 s11 wr => ∃ (i j : Nat), s10 = .int .i64 i ∧ s11 = .int .i64 j ∧ m ≤ i ∧ i ≤ j ∧ j ≤ b ∧ j - i ≤ kx ∧ Aside (SWK enc k w0 blk off d wr) ∧ bs (fun h => ltOf cf d[h]! d[a]!) kx i j = bs (fun h => ltOf cf d[h]! d[a]!) (b - m) m b)
  case atStart => exact ⟨m, b, rfl, rfl, Nat.le_refl _, by omega, Nat.le_refl _, by omega, S0, rfl⟩
  case round =>
    clear S0
    obtain ⟨i, j, rfl, rfl, hmi, hij, hjb, hkx, S1, heq⟩ := hrel
    by_cases hlt : i < j
    · have hltz : (i : Int) < (j : Int) := by omega
      go_wp2_with fail
      obtain ⟨gk', rfl⟩ : ∃ q, gk = q + 1 := ⟨gk - 1, by omega⟩
      rw [bs, if_pos hlt] at heq
      have HEQ := Aside0.mk heq
      clear heq
      cases hL : ltOf cf d[(i + j) / 2]! d[a]! with
      | true =>
        have HL := Aside0.mk hL
        clear hL
        have ea1 : (((i : Int) + (j : Int)) / 2).toNat = (i + j) / 2 := by omega
        have pa1 : (0 : Int) ≤ ((i : Int) + (j : Int)) / 2 := by omega
        have ba1 : ((i : Int) + (j : Int)) / 2 < (d.size : Int) := by omega
        have ra1 : IntKind.i64.wrap (((i : Int) + (j : Int)) / 2) = ((i : Int) + (j : Int)) / 2 := by rw [IntKind.wrap_i64]; omega
        have ec1 : ((a : Int)).toNat = a := by omega
        have pc1 : (0 : Int) ≤ (a : Int) := by omega
        have bc1 : (a : Int) < (d.size : Int) := by omega
        have rc1 : IntKind.i64.wrap ((a : Int)) = (a : Int) := by rw [IntKind.wrap_i64]; omega
        obtain ⟨x1, hx1⟩ : ∃ x, x = d[(i + j) / 2]! := ⟨_, rfl⟩
        obtain ⟨y1, hy1⟩ : ∃ x, x = d[a]! := ⟨_, rfl⟩
        have l1a := S1.out.ld R (by omega) P ((i + j) / 2) (by omega)
        have l1b := S1.out.ld R (by omega) P (a) (by omega)
        rw [← hx1] at l1a
        rw [← hy1] at l1b
        have hc1 := S1.out.cmp HC.out (by omega) x1 y1
        have hv1 : cf x1 y1 < 0 := by rw [hx1, hy1]; exact of_decide_eq_true HL.out
        have hd1 : decide (cf x1 y1 < 0) = true := decide_eq_true hv1
        clear hx1 hy1
        go_wp2_with fail
        go_quiet_grown (first | (go_at_fn g; refine Calls.grown_of (hc1 _ _)))
        have S2 : Aside (SWK enc k w0 blk off d (grow (wr.drewN nq) osq)) := S1.out.grown nq osq
        clear l1a l1b hc1 S1
        generalize grow (wr.drewN nq) osq = w2 at S2 ⊢
        clear nq osq
        go_wp2
        go_roundg gk'
        case measure => omega
        case rel =>
          have h := HEQ.out
          rw [if_pos (show ltOf cf d[(i + j) / 2]! d[a]! = true from HL.out)] at h
          exact ⟨(i + j) / 2 + 1, j, by go_num, rfl, by omega, by omega, hjb, by omega, S2, h⟩
      | false =>
        have HL := Aside0.mk hL
        clear hL
        have ea1 : (((i : Int) + (j : Int)) / 2).toNat = (i + j) / 2 := by omega
        have pa1 : (0 : Int) ≤ ((i : Int) + (j : Int)) / 2 := by omega
        have ba1 : ((i : Int) + (j : Int)) / 2 < (d.size : Int) := by omega
        have ra1 : IntKind.i64.wrap (((i : Int) + (j : Int)) / 2) = ((i : Int) + (j : Int)) / 2 := by rw [IntKind.wrap_i64]; omega
        have ec1 : ((a : Int)).toNat = a := by omega
        have pc1 : (0 : Int) ≤ (a : Int) := by omega
        have bc1 : (a : Int) < (d.size : Int) := by omega
        have rc1 : IntKind.i64.wrap ((a : Int)) = (a : Int) := by rw [IntKind.wrap_i64]; omega
        obtain ⟨x1, hx1⟩ : ∃ x, x = d[(i + j) / 2]! := ⟨_, rfl⟩
        obtain ⟨y1, hy1⟩ : ∃ x, x = d[a]! := ⟨_, rfl⟩
        have l1a := S1.out.ld R (by omega) P ((i + j) / 2) (by omega)
        have l1b := S1.out.ld R (by omega) P (a) (by omega)
        rw [← hx1] at l1a
        rw [← hy1] at l1b
        have hc1 := S1.out.cmp HC.out (by omega) x1 y1
        have hv1 : ¬ cf x1 y1 < 0 := by rw [hx1, hy1]; exact of_decide_eq_false HL.out
        have hd1 : decide (cf x1 y1 < 0) = false := decide_eq_false hv1
        clear hx1 hy1
        go_wp2_with fail
        go_quiet_grown (first | (go_at_fn g; refine Calls.grown_of (hc1 _ _)))
        have S2 : Aside (SWK enc k w0 blk off d (grow (wr.drewN nq) osq)) := S1.out.grown nq osq
        clear l1a l1b hc1 S1
        generalize grow (wr.drewN nq) osq = w2 at S2 ⊢
        clear nq osq
        go_wp2
        go_roundg gk'
        case measure => omega
        case rel =>
          have h := HEQ.out
          rw [if_neg (show ¬ ltOf cf d[(i + j) / 2]! d[a]! = true from by rw [HL.out]; simp)] at h
          exact ⟨i, (i + j) / 2, rfl, by go_num, by omega, by omega, by omega, by omega, S2, h⟩
    · have hltz : ¬ (i : Int) < (j : Int) := by omega
      rw [bs_end _ _ _ _ hlt] at heq
      have HI := Aside0.mk heq
      clear heq
      go_wp2
      go_loopg [13] (i - 1 - a) (fun kx s13 wr => ∃ (t : Nat) (dk : Array α), s13 = .int .i64 t ∧ a ≤ t ∧ t + kx = i - 1 ∧ dk.size = d.size ∧ Aside (SWK enc k w0 blk off dk wr) ∧ bubUp kx t dk = bubUp (i - 1 - a) a d)
      case atStart => exact ⟨a, d, rfl, Nat.le_refl _, by omega, rfl, S1, rfl⟩
      case round =>
        clear S1
        obtain ⟨t, dk, rfl, hat, hkx2, hds, S3, heq2⟩ := hrel
        by_cases hlt2 : t < i - 1
        · have hltz2 : (t : Int) < (i : Int) - 1 := by omega
          go_wp2_with fail
          have ea2 : ((t : Int)).toNat = t := by omega
          have pa2 : (0 : Int) ≤ (t : Int) := by omega
          have ba2 : (t : Int) < (d.size : Int) := by omega
          have ra2 : IntKind.i64.wrap ((t : Int)) = (t : Int) := by rw [IntKind.wrap_i64]; omega
          have ec2 : ((t : Int) + 1).toNat = t + 1 := by omega
          have pc2 : (0 : Int) ≤ (t : Int) + 1 := by omega
          have bc2 : (t : Int) + 1 < (d.size : Int) := by omega
          have rc2 : IntKind.i64.wrap ((t : Int) + 1) = (t : Int) + 1 := by rw [IntKind.wrap_i64]; omega
          have S4 : Aside (SWK enc k w0 blk off (swp dk (t) (t + 1)) ((wr.drew.setCells blk (off + (t) * k) (enc dk[t + 1]!)).setCells blk (off + (t + 1) * k) (enc dk[t]!))) := S3.out.swapped R (t) (t + 1) (by omega) (by omega)
          have l2a := S3.out.ld1 R (by omega) P (t) (by omega)
          have l2b := S3.out.ld1 R (by omega) P (t + 1) (by omega)
          have s2a := S3.out.st1 R (by omega) P (t) (by omega) dk[t + 1]!
          have s2b := S3.out.st2 R (by omega) P (t) (t + 1) (by omega) (by omega) dk[t + 1]! dk[t]!
          have n2a : (enc dk[t]!).length = k := R.hk _
          have n2b : (enc dk[t + 1]!).length = k := R.hk _
          generalize enc dk[t]! = cI2 at S4 l2a s2b n2a
          generalize enc dk[t + 1]! = cJ2 at S4 l2b s2a s2b n2b
          clear S3
          go_wp2_with fail
          go_big_region_o
          clear l2a l2b s2a s2b
          generalize (wr.drew.setCells blk (off + (t) * k) cJ2).setCells blk (off + (t + 1) * k) cI2 = w4 at S4 ⊢
          go_wp2
          obtain ⟨gk', rfl⟩ : ∃ q, gk = q + 1 := ⟨gk - 1, by omega⟩
          go_roundg gk'
          case measure => omega
          case rel => exact ⟨t + 1, swp dk t (t + 1), by go_num, by omega, by omega, by rw [size_swp]; exact hds, S4, heq2⟩
        · have hltz2 : ¬ (t : Int) < (i : Int) - 1 := by omega
          have hk0 : gk = 0 := by omega
          subst hk0
          go_wp2
          (try simp only [Exit.inBlock, Exit.then]); refine bodyPost_ret (results_none rfl _ _ _) rfl ?_
          refine ⟨rfl, ?_⟩
          rw [← HI.out, ← heq2]
          exact S3.out
set_option maxHeartbeats 8000000 in
set_option maxRecDepth 1000000 in
theorem symB_w (L : StLays P) (k : Nat) (aE : ∀ w, (isAgg 23).run P w = .ok true w) (zE : ∀ w, (Go.sizeOf 23).run P w = .ok k w) (enc : α → List Value) (cf : α → α → Int) (g : Nat) (cb : Array Value) (blk off cap a m b : Nat) (d0 d : Array α) (w0 w : World)
    (eg : ∀ args w, (callFunc g args).run P w = .ok (.enter g args) w) (hcmp : CmpLays P g cb enc k cf blk off d0.size w0) (R : RowK enc k w0 blk off d0) (hs : d0.size = d.size) (S : SWK enc k w0 blk off d w) (ham : a < m) (hmb : m < b) (hb : b ≤ d.size) (hsz : d.size < 4611686018427387904)
    (h1 : m - a ≠ 1) (h2 : b - m = 1) :
    Calls P 78 #[.slice (some ⟨blk, off, none⟩) d.size cap, .int .i64 a, .int .i64 m, .int .i64 b, .func (.func g) #[] cb] w fun e w' => e = .returned (.tuple #[]) ∧ SWK enc k w0 blk off (bubDn (m - bs (fun h => !ltOf cf d[m]! d[h]!) (m - a) a m) m d) w' := by
  have mixed := L.mixed; have t0 := L.t0; have a0 := L.a0; have z0 := L.z0; have v0 := L.v0; have t3 := L.t3; have a3 := L.a3; have z3 := L.z3; have v3 := L.v3; have t4 := L.t4; have a4 := L.a4; have z4 := L.z4; have v4 := L.v4; have t28 := L.t28; have a28 := L.a28; have z28 := L.z28; have v28 := L.v28; have t74 := L.t74; have a74 := L.a74; have z74 := L.z74; have v74 := L.v74; have t100 := L.t100; have a100 := L.a100; have z100 := L.z100; have v100 := L.v100
  have FG := L.f78
  have S0 : Aside (SWK enc k w0 blk off d w) := S
  have HC := Aside0.mk hcmp
  clear S hcmp
  have hz1 : ¬ (m : Int) - (a : Int) = 1 := by omega
  have hz1b : ((m : Int) - (a : Int) == 1) = false := beq_eq_false_iff_ne.2 hz1
  have hz2 : (b : Int) - (m : Int) = 1 := by omega
  go_enter FG, Try.ntmps78
  go_wp2
  go_loopg [14, 15] (m - a) (fun kx s10 s11 wr => ∃ (i j : Nat), s10 = .int .i64 i ∧ s11 = .int .i64 j ∧ a ≤ i ∧ i ≤ j ∧ j ≤ m ∧ j - i ≤ kx ∧ Aside (SWK enc k w0 blk off d wr) ∧ bs (fun h => !ltOf cf d[m]! d[h]!) kx i j = bs (fun h => !ltOf cf d[m]! d[h]!) (m - a) a m)
  case atStart => exact ⟨a, m, rfl, rfl, Nat.le_refl _, by omega, Nat.le_refl _, by omega, S0, rfl⟩
  case round =>
    clear S0
    obtain ⟨i, j, rfl, rfl, hmi, hij, hjb, hkx, S1, heq⟩ := hrel
    by_cases hlt : i < j
    · have hltz : (i : Int) < (j : Int) := by omega
      go_wp2_with fail
      obtain ⟨gk', rfl⟩ : ∃ q, gk = q + 1 := ⟨gk - 1, by omega⟩
      rw [bs, if_pos hlt] at heq
      have HEQ := Aside0.mk heq
      clear heq
      cases hL : ltOf cf d[m]! d[(i + j) / 2]! with
      | true =>
        have HL := Aside0.mk hL
        clear hL
        have ea1 : ((m : Int)).toNat = m := by omega
        have pa1 : (0 : Int) ≤ (m : Int) := by omega
        have ba1 : (m : Int) < (d.size : Int) := by omega
        have ra1 : IntKind.i64.wrap ((m : Int)) = (m : Int) := by rw [IntKind.wrap_i64]; omega
        have ec1 : (((i : Int) + (j : Int)) / 2).toNat = (i + j) / 2 := by omega
        have pc1 : (0 : Int) ≤ ((i : Int) + (j : Int)) / 2 := by omega
        have bc1 : ((i : Int) + (j : Int)) / 2 < (d.size : Int) := by omega
        have rc1 : IntKind.i64.wrap (((i : Int) + (j : Int)) / 2) = ((i : Int) + (j : Int)) / 2 := by rw [IntKind.wrap_i64]; omega
        obtain ⟨x1, hx1⟩ : ∃ x, x = d[m]! := ⟨_, rfl⟩
        obtain ⟨y1, hy1⟩ : ∃ x, x = d[(i + j) / 2]! := ⟨_, rfl⟩
        have l1a := S1.out.ld R (by omega) P (m) (by omega)
        have l1b := S1.out.ld R (by omega) P ((i + j) / 2) (by omega)
        rw [← hx1] at l1a
        rw [← hy1] at l1b
        have hc1 := S1.out.cmp HC.out (by omega) x1 y1
        have hv1 : cf x1 y1 < 0 := by rw [hx1, hy1]; exact of_decide_eq_true HL.out
        have hd1 : decide (cf x1 y1 < 0) = true := decide_eq_true hv1
        clear hx1 hy1
        go_wp2_with fail
        go_quiet_grown (first | (go_at_fn g; refine Calls.grown_of (hc1 _ _)))
        have S2 : Aside (SWK enc k w0 blk off d (grow (wr.drewN nq) osq)) := S1.out.grown nq osq
        clear l1a l1b hc1 S1
        generalize grow (wr.drewN nq) osq = w2 at S2 ⊢
        clear nq osq
        go_wp2
        go_roundg gk'
        case measure => omega
        case rel =>
          have h := HEQ.out
          rw [if_neg (show ¬ (!ltOf cf d[m]! d[(i + j) / 2]!) = true from by rw [HL.out]; simp)] at h
          exact ⟨i, (i + j) / 2, rfl, by go_num, by omega, by omega, by omega, by omega, S2, h⟩
      | false =>
        have HL := Aside0.mk hL
        clear hL
        have ea1 : ((m : Int)).toNat = m := by omega
        have pa1 : (0 : Int) ≤ (m : Int) := by omega
        have ba1 : (m : Int) < (d.size : Int) := by omega
        have ra1 : IntKind.i64.wrap ((m : Int)) = (m : Int) := by rw [IntKind.wrap_i64]; omega
        have ec1 : (((i : Int) + (j : Int)) / 2).toNat = (i + j) / 2 := by omega
        have pc1 : (0 : Int) ≤ ((i : Int) + (j : Int)) / 2 := by omega
        have bc1 : ((i : Int) + (j : Int)) / 2 < (d.size : Int) := by omega
        have rc1 : IntKind.i64.wrap (((i : Int) + (j : Int)) / 2) = ((i : Int) + (j : Int)) / 2 := by rw [IntKind.wrap_i64]; omega
        obtain ⟨x1, hx1⟩ : ∃ x, x = d[m]! := ⟨_, rfl⟩
        obtain ⟨y1, hy1⟩ : ∃ x, x = d[(i + j) / 2]! := ⟨_, rfl⟩
        have l1a := S1.out.ld R (by omega) P (m) (by omega)
        have l1b := S1.out.ld R (by omega) P ((i + j) / 2) (by omega)
        rw [← hx1] at l1a
        rw [← hy1] at l1b
        have hc1 := S1.out.cmp HC.out (by omega) x1 y1
        have hv1 : ¬ cf x1 y1 < 0 := by rw [hx1, hy1]; exact of_decide_eq_false HL.out
        have hd1 : decide (cf x1 y1 < 0) = false := decide_eq_false hv1
        clear hx1 hy1
        go_wp2_with fail
        go_quiet_grown (first | (go_at_fn g; refine Calls.grown_of (hc1 _ _)))
        have S2 : Aside (SWK enc k w0 blk off d (grow (wr.drewN nq) osq)) := S1.out.grown nq osq
        clear l1a l1b hc1 S1
        generalize grow (wr.drewN nq) osq = w2 at S2 ⊢
        clear nq osq
        go_wp2
        go_roundg gk'
        case measure => omega
        case rel =>
          have h := HEQ.out
          rw [if_pos (show (!ltOf cf d[m]! d[(i + j) / 2]!) = true from by rw [HL.out]; rfl)] at h
          exact ⟨(i + j) / 2 + 1, j, by go_num, rfl, by omega, by omega, hjb, by omega, S2, h⟩
    · have hltz : ¬ (i : Int) < (j : Int) := by omega
      rw [bs_end _ _ _ _ hlt] at heq
      have HI := Aside0.mk heq
      clear heq
      go_wp2
      go_loopg [17] (m - i) (fun kx s13 wr => ∃ (t : Nat) (dk : Array α), s13 = .int .i64 t ∧ t ≤ m ∧ (i ≤ t ∧ t - i = kx) ∧ dk.size = d.size ∧ Aside (SWK enc k w0 blk off dk wr) ∧ bubDn kx t dk = bubDn (m - i) m d)
      case atStart => exact ⟨m, d, rfl, Nat.le_refl _, ⟨by omega, by omega⟩, rfl, S1, rfl⟩
      case round =>
        clear S1
        obtain ⟨t, dk, rfl, hat, hkx2, hds, S3, heq2⟩ := hrel
        by_cases hlt2 : i < t
        · have hltz2 : (i : Int) < (t : Int) := by omega
          go_wp2_with fail
          have ea2 : ((t : Int)).toNat = t := by omega
          have pa2 : (0 : Int) ≤ (t : Int) := by omega
          have ba2 : (t : Int) < (d.size : Int) := by omega
          have ra2 : IntKind.i64.wrap ((t : Int)) = (t : Int) := by rw [IntKind.wrap_i64]; omega
          have ec2 : ((t : Int) - 1).toNat = t - 1 := by omega
          have pc2 : (0 : Int) ≤ (t : Int) - 1 := by omega
          have bc2 : (t : Int) - 1 < (d.size : Int) := by omega
          have rc2 : IntKind.i64.wrap ((t : Int) - 1) = (t : Int) - 1 := by rw [IntKind.wrap_i64]; omega
          have S4 : Aside (SWK enc k w0 blk off (swp dk (t) (t - 1)) ((wr.drew.setCells blk (off + (t) * k) (enc dk[t - 1]!)).setCells blk (off + (t - 1) * k) (enc dk[t]!))) := S3.out.swapped R (t) (t - 1) (by omega) (by omega)
          have l2a := S3.out.ld1 R (by omega) P (t) (by omega)
          have l2b := S3.out.ld1 R (by omega) P (t - 1) (by omega)
          have s2a := S3.out.st1 R (by omega) P (t) (by omega) dk[t - 1]!
          have s2b := S3.out.st2 R (by omega) P (t) (t - 1) (by omega) (by omega) dk[t - 1]! dk[t]!
          have n2a : (enc dk[t]!).length = k := R.hk _
          have n2b : (enc dk[t - 1]!).length = k := R.hk _
          generalize enc dk[t]! = cI2 at S4 l2a s2b n2a
          generalize enc dk[t - 1]! = cJ2 at S4 l2b s2a s2b n2b
          clear S3
          go_wp2_with fail
          go_big_region_o
          clear l2a l2b s2a s2b
          generalize (wr.drew.setCells blk (off + (t) * k) cJ2).setCells blk (off + (t - 1) * k) cI2 = w4 at S4 ⊢
          go_wp2
          obtain ⟨gk', rfl⟩ : ∃ q, gk = q + 1 := ⟨gk - 1, by omega⟩
          go_roundg gk'
          case measure => omega
          case rel => exact ⟨t - 1, swp dk t (t - 1), by go_num, by omega, ⟨by omega, by omega⟩, by rw [size_swp]; exact hds, S4, heq2⟩
        · have hltz2 : ¬ (i : Int) < (t : Int) := by omega
          have hk0 : gk = 0 := by omega
          subst hk0
          go_wp2
          (try simp only [Exit.inBlock, Exit.then]); refine bodyPost_ret (results_none rfl _ _ _) rfl ?_
          refine ⟨rfl, ?_⟩
          rw [← HI.out, ← heq2]
          exact S3.out
end
end Go.Proofs.Ytcjeegomonegpaa.PLivePlays
namespace Go.Proofs.Ytcjeegomonegpaa.PLivePlays
open Go.RowKit Go.Lib Go.Sort Go.Proofs.YtcjeegomonegpaaW.PrintWords
set_option linter.unusedVariables false
set_option linter.unusedSimpArgs false
section
variable {P : Program} {α : Type} [Inhabited α]
theorem symSt_bounds (lt : α → α → Bool) (d : Array α) (a m b : Nat) (ham : a < m) (hmb : m < b) : a ≤ symSt lt d a m b ∧ symSt lt d a m b ≤ m ∧ symSt lt d a m b ≤ (a + b) / 2 ∧ (a + b) / 2 + m - symSt lt d a m b ≤ b := by
  unfold symSt
  split
  · have := bs_le (fun c => !lt d[(a + b) / 2 + m - 1 - c]! d[c]!) (b - a) ((a + b) / 2 + m - b) ((a + b) / 2) (by omega)
    omega
  · have := bs_le (fun c => !lt d[(a + b) / 2 + m - 1 - c]! d[c]!) (b - a) a m (by omega)
    omega
set_option maxHeartbeats 8000000 in
set_option maxRecDepth 1000000 in
theorem symC_w (L : StLays P) (k : Nat) (aE : ∀ w, (isAgg 23).run P w = .ok true w) (zE : ∀ w, (Go.sizeOf 23).run P w = .ok k w) (enc : α → List Value) (cf : α → α → Int) (g : Nat) (cb : Array Value) (blk off cap a m b f : Nat) (d0 d : Array α) (w0 w : World)
    (eg : ∀ args w, (callFunc g args).run P w = .ok (.enter g args) w) (hcmp : CmpLays P g cb enc k cf blk off d0.size w0) (R : RowK enc k w0 blk off d0) (hs : d0.size = d.size) (S : SWK enc k w0 blk off d w) (ham : a < m) (hmb : m < b) (hb : b ≤ d.size) (hsz : d.size < 4611686018427387904)
    (h1 : m - a ≠ 1) (h2 : b - m ≠ 1)
    (ih : ∀ (dk : Array α) (x y z : Nat) (W : World), z - x < b - a → x < y → y < z → z ≤ d.size → dk.size = d.size → SWK enc k w0 blk off dk W → Calls P 78 #[.slice (some ⟨blk, off, none⟩) d.size cap, .int .i64 x, .int .i64 y, .int .i64 z, .func (.func g) #[] cb] W fun e w' => e = .returned (.tuple #[]) ∧ SWK enc k w0 blk off (symM (ltOf cf) f dk x y z) w') :
    Calls P 78 #[.slice (some ⟨blk, off, none⟩) d.size cap, .int .i64 a, .int .i64 m, .int .i64 b, .func (.func g) #[] cb] w fun e w' => e = .returned (.tuple #[]) ∧ SWK enc k w0 blk off (symM (ltOf cf) (f + 1) d a m b) w' := by
  have mixed := L.mixed; have t0 := L.t0; have a0 := L.a0; have z0 := L.z0; have v0 := L.v0; have t3 := L.t3; have a3 := L.a3; have z3 := L.z3; have v3 := L.v3; have t4 := L.t4; have a4 := L.a4; have z4 := L.z4; have v4 := L.v4; have t28 := L.t28; have a28 := L.a28; have z28 := L.z28; have v28 := L.v28; have t74 := L.t74; have a74 := L.a74; have z74 := L.z74; have v74 := L.v74; have t100 := L.t100; have a100 := L.a100; have z100 := L.z100; have v100 := L.v100
  have FG := L.f78
  have e78 : ∀ args w, (callFunc 78 args).run P w = .ok (.enter 78 args) w := enters_of L.f78 (by kernel_rfl) rfl
  have e85 : ∀ args w, (callFunc 85 args).run P w = .ok (.enter 85 args) w := enters_of L.f85 (by kernel_rfl) rfl
  have S0 : Aside (SWK enc k w0 blk off d w) := S
  have HC := Aside0.mk hcmp
  have IH := Aside0.mk ih
  have HRot : Aside0 (∀ (x y z : Nat) (W : World), x < y → y < z → z ≤ d.size → SWK enc k w0 blk off d W → Calls P 85 #[.slice (some ⟨blk, off, none⟩) d.size cap, .int .i64 x, .int .i64 y, .int .i64 z, .func (.func g) #[] cb] W fun e w' => e = .returned (.tuple #[]) ∧ SWK enc k w0 blk off (rotate d x y z) w') :=
    ⟨fun x y z W q1 q2 q3 q4 => rotate_w L k aE zE enc g cb blk off cap x y z d0 d w0 W R hs q4 q1 q2 q3 hsz⟩
  have HB := Aside0.mk (symSt_bounds (ltOf cf) d a m b ham hmb)
  have HM : Aside0 (symM (ltOf cf) (f + 1) d a m b = (fun d2 => if (a + b) / 2 < (a + b) / 2 + m - symSt (ltOf cf) d a m b ∧ (a + b) / 2 + m - symSt (ltOf cf) d a m b < b then symM (ltOf cf) f d2 ((a + b) / 2) ((a + b) / 2 + m - symSt (ltOf cf) d a m b) b else d2)
      ((fun d1 => if a < symSt (ltOf cf) d a m b ∧ symSt (ltOf cf) d a m b < (a + b) / 2 then symM (ltOf cf) f d1 a (symSt (ltOf cf) d a m b) ((a + b) / 2) else d1)
      (if symSt (ltOf cf) d a m b < m ∧ m < (a + b) / 2 + m - symSt (ltOf cf) d a m b then rotate d (symSt (ltOf cf) d a m b) m ((a + b) / 2 + m - symSt (ltOf cf) d a m b) else d))) := ⟨by
    rw [symM, if_neg h1, if_neg h2]⟩
  clear S hcmp ih
  have hz1 : ¬ (m : Int) - (a : Int) = 1 := by omega
  have hz1b : ((m : Int) - (a : Int) == 1) = false := beq_eq_false_iff_ne.2 hz1
  have hz2 : ¬ (b : Int) - (m : Int) = 1 := by omega
  have hz2b : ((b : Int) - (m : Int) == 1) = false := beq_eq_false_iff_ne.2 hz2
  obtain ⟨mid, hmid⟩ : ∃ x, x = (a + b) / 2 := ⟨_, rfl⟩
  have hm1 : 2 * mid ≤ a + b := by omega
  have hm2 : a + b ≤ 2 * mid + 1 := by omega
  have HP : Aside0 (symSt (ltOf cf) d a m b = if m > mid then bs (fun c => !ltOf cf d[mid + m - 1 - c]! d[c]!) (b - a) (mid + m - b) mid else bs (fun c => !ltOf cf d[mid + m - 1 - c]! d[c]!) (b - a) a m) := ⟨by rw [hmid]; rfl⟩
  rw [← hmid] at HB HM
  have hmz : ((a : Int) + (b : Int)) / 2 = (mid : Int) := by omega
  obtain ⟨st, hst⟩ : ∃ x, x = symSt (ltOf cf) d a m b := ⟨_, rfl⟩
  rw [← hst] at HB HM HP
  have HST := Aside0.mk hst
  clear hst hmid
  go_enter FG, Try.ntmps78
  go_upto_if 140 with fail
  go_cut [18, 19, 20, 21] from 25 (fun s18 s19 s20 s21 wx => ∃ lo hi : Nat, s18 = .int .i64 (mid : Int) ∧ s19 = .int .i64 ((mid : Int) + (m : Int)) ∧ s20 = .int .i64 (lo : Int) ∧ s21 = .int .i64 (hi : Int) ∧ a ≤ lo ∧ lo ≤ hi ∧ hi ≤ m ∧ hi ≤ mid ∧ mid + m ≤ b + lo ∧ Aside0 (bs (fun c => !ltOf cf d[mid + m - 1 - c]! d[c]!) (b - a) lo hi = st) ∧ wx = w)
  case first =>
    by_cases hgt : m > mid
    · have hgz : (mid : Int) < (m : Int) := by omega
      go_wp2_with fail
      go_meet
      case rel =>
        refine ⟨mid + m - b, mid, rfl, rfl, by go_num, rfl, by omega, by omega, by omega, by omega, by omega, ⟨?_⟩, rfl⟩
        rw [HP.out, if_pos hgt]
    · have hgz : ¬ (mid : Int) < (m : Int) := by omega
      go_wp2_with fail
      go_meet
      case rel =>
        refine ⟨a, m, rfl, rfl, rfl, rfl, by omega, by omega, by omega, by omega, by omega, ⟨?_⟩, rfl⟩
        rw [HP.out, if_neg hgt]
  case rest =>
    obtain ⟨lo, hi, rfl, rfl, rfl, rfl, hlo, hlh, hhm, hhd, hlb, HE, rfl⟩ := hcut
    clear HP hmz
    go_wp2_with fail
    go_loopg [20, 21] (b - a) (fun kx s20 s21 wr => ∃ (i j : Nat), s20 = .int .i64 i ∧ s21 = .int .i64 j ∧ lo ≤ i ∧ i ≤ j ∧ j ≤ hi ∧ j - i ≤ kx ∧ Aside (SWK enc k w0 blk off d wr) ∧ Aside0 (bs (fun c => !ltOf cf d[mid + m - 1 - c]! d[c]!) kx i j = st))
    case atStart => exact ⟨lo, hi, rfl, rfl, Nat.le_refl _, hlh, Nat.le_refl _, by omega, S0, HE⟩
    case round =>
      clear S0 HE
      obtain ⟨i, j, rfl, rfl, hmi, hij, hjb, hkx, S1, heq⟩ := hrel
      by_cases hlt : i < j
      · have hltz : (i : Int) < (j : Int) := by omega
        go_wp2_with fail
        obtain ⟨gk', rfl⟩ : ∃ q, gk = q + 1 := ⟨gk - 1, by omega⟩
        have HEQ := heq
        clear heq
        obtain ⟨q, hq⟩ : ∃ q, q = mid + m - 1 - (i + j) / 2 := ⟨_, rfl⟩
        have hqz : (mid : Int) + (m : Int) - 1 - ((i : Int) + (j : Int)) / 2 = (q : Int) := by omega
        have hqs : q < d.size := by omega
        have HQ := Aside0.mk hq
        clear hq
        cases hL : ltOf cf d[q]! d[(i + j) / 2]! with
        | true =>
          as_aux_lemma =>
          have HL := Aside0.mk hL
          clear hL
          have ea1 : ((q : Int)).toNat = q := by omega
          have pa1 : (0 : Int) ≤ (q : Int) := by omega
          have ba1 : (q : Int) < (d.size : Int) := by omega
          have ra1 : IntKind.i64.wrap ((q : Int)) = (q : Int) := by rw [IntKind.wrap_i64]; omega
          have ec1 : (((i : Int) + (j : Int)) / 2).toNat = (i + j) / 2 := by omega
          have pc1 : (0 : Int) ≤ ((i : Int) + (j : Int)) / 2 := by omega
          have bc1 : ((i : Int) + (j : Int)) / 2 < (d.size : Int) := by omega
          have rc1 : IntKind.i64.wrap (((i : Int) + (j : Int)) / 2) = ((i : Int) + (j : Int)) / 2 := by rw [IntKind.wrap_i64]; omega
          obtain ⟨x1, hx1⟩ : ∃ x, x = d[q]! := ⟨_, rfl⟩
          obtain ⟨y1, hy1⟩ : ∃ x, x = d[(i + j) / 2]! := ⟨_, rfl⟩
          have l1a := S1.out.ld R (by omega) P (q) (by omega)
          have l1b := S1.out.ld R (by omega) P ((i + j) / 2) (by omega)
          rw [← hx1] at l1a
          rw [← hy1] at l1b
          have hc1 := S1.out.cmp HC.out (by omega) x1 y1
          have hv1 : cf x1 y1 < 0 := by rw [hx1, hy1]; exact of_decide_eq_true HL.out
          have hd1 : decide (cf x1 y1 < 0) = true := decide_eq_true hv1
          clear hx1 hy1
          go_wp2_with fail
          go_quiet_grown (first | (go_at_fn g; refine Calls.grown_of (hc1 _ _)))
          have S2 : Aside (SWK enc k w0 blk off d (grow (wr.drewN nq) osq)) := S1.out.grown nq osq
          clear l1a l1b hc1 S1
          generalize grow (wr.drewN nq) osq = w2 at S2 ⊢
          clear nq osq
          go_wp2
          go_roundg gk'
          case measure => omega
          case rel =>
            have h := HEQ.out
            rw [bs, if_pos hlt] at h
            rw [if_neg (show ¬ (!ltOf cf d[mid + m - 1 - (i + j) / 2]! d[(i + j) / 2]!) = true from by rw [← HQ.out, HL.out]; simp)] at h
            exact ⟨i, (i + j) / 2, rfl, by go_num, by omega, by omega, by omega, by omega, S2, ⟨h⟩⟩
        | false =>
          as_aux_lemma =>
          have HL := Aside0.mk hL
          clear hL
          have ea1 : ((q : Int)).toNat = q := by omega
          have pa1 : (0 : Int) ≤ (q : Int) := by omega
          have ba1 : (q : Int) < (d.size : Int) := by omega
          have ra1 : IntKind.i64.wrap ((q : Int)) = (q : Int) := by rw [IntKind.wrap_i64]; omega
          have ec1 : (((i : Int) + (j : Int)) / 2).toNat = (i + j) / 2 := by omega
          have pc1 : (0 : Int) ≤ ((i : Int) + (j : Int)) / 2 := by omega
          have bc1 : ((i : Int) + (j : Int)) / 2 < (d.size : Int) := by omega
          have rc1 : IntKind.i64.wrap (((i : Int) + (j : Int)) / 2) = ((i : Int) + (j : Int)) / 2 := by rw [IntKind.wrap_i64]; omega
          obtain ⟨x1, hx1⟩ : ∃ x, x = d[q]! := ⟨_, rfl⟩
          obtain ⟨y1, hy1⟩ : ∃ x, x = d[(i + j) / 2]! := ⟨_, rfl⟩
          have l1a := S1.out.ld R (by omega) P (q) (by omega)
          have l1b := S1.out.ld R (by omega) P ((i + j) / 2) (by omega)
          rw [← hx1] at l1a
          rw [← hy1] at l1b
          have hc1 := S1.out.cmp HC.out (by omega) x1 y1
          have hv1 : ¬ cf x1 y1 < 0 := by rw [hx1, hy1]; exact of_decide_eq_false HL.out
          have hd1 : decide (cf x1 y1 < 0) = false := decide_eq_false hv1
          clear hx1 hy1
          go_wp2_with fail
          go_quiet_grown (first | (go_at_fn g; refine Calls.grown_of (hc1 _ _)))
          have S2 : Aside (SWK enc k w0 blk off d (grow (wr.drewN nq) osq)) := S1.out.grown nq osq
          clear l1a l1b hc1 S1
          generalize grow (wr.drewN nq) osq = w2 at S2 ⊢
          clear nq osq
          go_wp2
          go_roundg gk'
          case measure => omega
          case rel =>
            have h := HEQ.out
            rw [bs, if_pos hlt] at h
            rw [if_pos (show (!ltOf cf d[mid + m - 1 - (i + j) / 2]! d[(i + j) / 2]!) = true from by rw [← HQ.out, HL.out]; rfl)] at h
            exact ⟨(i + j) / 2 + 1, j, by go_num, rfl, by omega, by omega, hjb, by omega, S2, ⟨h⟩⟩
      · have hltz : ¬ (i : Int) < (j : Int) := by omega
        have h := heq.out
        rw [bs_end _ _ _ _ hlt] at h
        subst h
        clear heq
        obtain ⟨b1, b2, b3, b4⟩ := HB.out
        obtain ⟨en, hen⟩ : ∃ x, x = mid + m - i := ⟨_, rfl⟩
        rw [← hen] at HM
        have hez : (mid : Int) + (m : Int) - (i : Int) = (en : Int) := by omega
        have he1 : en + i = mid + m := by omega
        clear hen HB
        as_aux_lemma =>
        go_upto_region 39 with fail
        go_cut [185] from 25 (fun sx wx => sx = .bool (decide (i < m) && decide (m < en)) ∧ wx = wr)
        case first =>
          as_aux_lemma =>
          by_cases c1 : i < m
          · have c1z : (i : Int) < (m : Int) := by omega
            by_cases c2 : m < en
            · have c2z : (m : Int) < (en : Int) := by omega
              go_wp2_with fail
              go_meet
              case rel => exact ⟨by simp [c1, c2], rfl⟩
            · have c2z : ¬ (m : Int) < (en : Int) := by omega
              go_wp2_with fail
              go_meet
              case rel => exact ⟨by simp [c1, c2], rfl⟩
          · have c1z : ¬ (i : Int) < (m : Int) := by omega
            go_wp2_with fail
            go_meet
            case rel => exact ⟨by simp [c1], rfl⟩
        case rest =>
          obtain ⟨rfl, rfl⟩ := hcut
          go_upto_if 185 with fail
          go_cut [] from 25 (fun wx => Aside (SWK enc k w0 blk off (if i < m ∧ m < en then rotate d i m en else d) wx))
          case first =>
            as_aux_lemma =>
            cases hbb : (decide (i < m) && decide (m < en)) with
            | true =>
              simp only [Bool.and_eq_true, decide_eq_true_eq] at hbb
              have hcl := HRot.out i m en _ hbb.1 hbb.2 (by omega) S1.out
              go_wp2_with (go_at_fn 85; refine hcl.mono ?_; rintro e w9 ⟨rfl, hS⟩)
              go_meet
              case rel =>
                rw [if_pos hbb]
                exact hS
            | false =>
              simp only [Bool.and_eq_false_iff, decide_eq_false_iff_not] at hbb
              go_wp2_with fail
              go_meet
              case rel =>
                rw [if_neg (by omega)]
                exact S1
          case rest =>
            have S4 := hcut
            clear hcut S1
            obtain ⟨d1, hd1⟩ : ∃ x, x = (if i < m ∧ m < en then rotate d i m en else d) := ⟨_, rfl⟩
            have hds1 : d1.size = d.size := by
              rw [hd1]
              split
              · exact size_rotate _ _ _ _
              · rfl
            rw [← hd1] at S4 HM
            clear hd1
            go_upto_region 41 with fail
            go_cut [199] from 25 (fun sx wx => sx = .bool (decide (a < i) && decide (i < mid)) ∧ wx = wc)
            case first =>
              as_aux_lemma =>
              by_cases c1 : a < i
              · have c1z : (a : Int) < (i : Int) := by omega
                by_cases c2 : i < mid
                · have c2z : (i : Int) < (mid : Int) := by omega
                  go_wp2_with fail
                  go_meet
                  case rel => exact ⟨by simp [c1, c2], rfl⟩
                · have c2z : ¬ (i : Int) < (mid : Int) := by omega
                  go_wp2_with fail
                  go_meet
                  case rel => exact ⟨by simp [c1, c2], rfl⟩
              · have c1z : ¬ (a : Int) < (i : Int) := by omega
                go_wp2_with fail
                go_meet
                case rel => exact ⟨by simp [c1], rfl⟩
            case rest =>
              obtain ⟨rfl, rfl⟩ := hcut
              go_upto_if 199 with fail
              go_cut [] from 25 (fun wx => Aside (SWK enc k w0 blk off (if a < i ∧ i < mid then symM (ltOf cf) f d1 a i mid else d1) wx))
              case first =>
                as_aux_lemma =>
                cases hbb : (decide (a < i) && decide (i < mid)) with
                | true =>
                  simp only [Bool.and_eq_true, decide_eq_true_eq] at hbb
                  have hcl := IH.out d1 a i mid _ (by omega) hbb.1 hbb.2 (by omega) hds1 S4.out
                  go_wp2_with (go_at_fn 78; refine hcl.mono ?_; rintro e w9 ⟨rfl, hS⟩)
                  go_meet
                  case rel =>
                    rw [if_pos hbb]
                    exact hS
                | false =>
                  simp only [Bool.and_eq_false_iff, decide_eq_false_iff_not] at hbb
                  go_wp2_with fail
                  go_meet
                  case rel =>
                    rw [if_neg (by omega)]
                    exact S4
              case rest =>
                have S5 := hcut
                clear hcut S4
                obtain ⟨d2, hd2⟩ : ∃ x, x = (if a < i ∧ i < mid then symM (ltOf cf) f d1 a i mid else d1) := ⟨_, rfl⟩
                have hds2 : d2.size = d.size := by
                  rw [hd2]
                  split
                  · rw [size_symM]
                    exact hds1
                  · exact hds1
                have HM2 : Aside0 (symM (ltOf cf) (f + 1) d a m b = if mid < en ∧ en < b then symM (ltOf cf) f d2 mid en b else d2) := ⟨by rw [HM.out, hd2]⟩
                rw [← hd2] at S5
                clear hd2 HM
                go_upto_region 43 with fail
                go_cut [213] from 25 (fun sx wx => sx = .bool (decide (mid < en) && decide (en < b)) ∧ wx = wc)
                case first =>
                  as_aux_lemma =>
                  by_cases c1 : mid < en
                  · have c1z : (mid : Int) < (en : Int) := by omega
                    by_cases c2 : en < b
                    · have c2z : (en : Int) < (b : Int) := by omega
                      go_wp2_with fail
                      go_meet
                      case rel => exact ⟨by simp [c1, c2], rfl⟩
                    · have c2z : ¬ (en : Int) < (b : Int) := by omega
                      go_wp2_with fail
                      go_meet
                      case rel => exact ⟨by simp [c1, c2], rfl⟩
                  · have c1z : ¬ (mid : Int) < (en : Int) := by omega
                    go_wp2_with fail
                    go_meet
                    case rel => exact ⟨by simp [c1], rfl⟩
                case rest =>
                  obtain ⟨rfl, rfl⟩ := hcut
                  cases hbb : (decide (mid < en) && decide (en < b)) with
                  | true =>
                    simp only [Bool.and_eq_true, decide_eq_true_eq] at hbb
                    have hcl := IH.out d2 mid en b _ (by omega) hbb.1 hbb.2 (by omega) hds2 S5.out
                    go_wp2_with (go_at_fn 78; refine hcl.mono ?_; rintro e w9 ⟨rfl, hS⟩)
                    go_end0
                    refine ⟨rfl, ?_⟩
                    rw [HM2.out, if_pos hbb]
                    exact hS
                  | false =>
                    simp only [Bool.and_eq_false_iff, decide_eq_false_iff_not] at hbb
                    go_wp2_with fail
                    go_end0
                    refine ⟨rfl, ?_⟩
                    rw [HM2.out, if_neg (by omega)]
                    exact S5.out
theorem symM_w (L : StLays P) (k : Nat) (aE : ∀ w, (isAgg 23).run P w = .ok true w) (zE : ∀ w, (Go.sizeOf 23).run P w = .ok k w) (enc : α → List Value) (cf : α → α → Int) (g : Nat) (cb : Array Value) (blk off cap : Nat) (d0 : Array α) (w0 : World)
    (eg : ∀ args w, (callFunc g args).run P w = .ok (.enter g args) w) (hcmp : CmpLays P g cb enc k cf blk off d0.size w0) (R : RowK enc k w0 blk off d0) (hsz : d0.size < 4611686018427387904) :
    ∀ (f : Nat) (d : Array α) (a m b : Nat) (w : World), b - a ≤ f → a < m → m < b → b ≤ d.size → d.size = d0.size → SWK enc k w0 blk off d w →
    Calls P 78 #[.slice (some ⟨blk, off, none⟩) d.size cap, .int .i64 a, .int .i64 m, .int .i64 b, .func (.func g) #[] cb] w fun e w' => e = .returned (.tuple #[]) ∧ SWK enc k w0 blk off (symM (ltOf cf) f d a m b) w' := by
  intro f
  induction f with
  | zero => intro d a m b w h1 h2 h3; omega
  | succ f ih =>
    intro d a m b w hf ham hmb hb hs S
    by_cases h1 : m - a = 1
    · rw [symM, if_pos h1]
      exact symA_w L k aE zE enc cf g cb blk off cap a m b d0 d w0 w eg hcmp R hs.symm S ham hmb hb (by omega) h1
    · by_cases h2 : b - m = 1
      · rw [symM, if_neg h1, if_pos h2]
        exact symB_w L k aE zE enc cf g cb blk off cap a m b d0 d w0 w eg hcmp R hs.symm S ham hmb hb (by omega) h1 h2
      · refine symC_w L k aE zE enc cf g cb blk off cap a m b f d0 d w0 w eg hcmp R hs.symm S ham hmb hb (by omega) h1 h2 fun dk x y z W q1 q2 q3 q4 q5 q6 => ?_
        have h := ih dk x y z W (by omega) q2 q3 (by omega) (by omega) q6
        rw [q5] at h
        exact h
end
end Go.Proofs.Ytcjeegomonegpaa.PLivePlays
namespace Go.Proofs.Ytcjeegomonegpaa.PLivePlays
open Go.Sort
set_option linter.unusedVariables false
set_option linter.unusedSimpArgs false
section
variable {α : Type} [Inhabited α]
theorem swapR_perm (lo hi a b : Nat) : ∀ n i (d : Array α), a + n + i ≤ b + i → lo ≤ a + i → b + i + n ≤ hi → hi ≤ d.size → PermIn lo hi d (swapR a b n i d)
  | 0, _, d, _, _, _, _ => permIn_refl d lo hi
  | n + 1, i, d, h1, h2, h3, h4 => by
    rw [swapR]
    exact permIn_trans _ _ _ _ _ (swp_permIn d lo hi (a + i) (b + i) (by omega) (by omega) (by omega) (by omega) h4) (swapR_perm lo hi a b n (i + 1) _ (by omega) (by omega) (by omega) (by rw [size_swp]; exact h4))
theorem swapR_get (a b : Nat) : ∀ n i (d : Array α), a + n + i ≤ b → b + i + n ≤ d.size → ∀ t, (swapR a b n i d)[t]! = if a + i ≤ t ∧ t < a + i + n then d[t + b - a]! else if b + i ≤ t ∧ t < b + i + n then d[t + a - b]! else d[t]!
  | 0, i, d, _, _, t => by
    rw [swapR, if_neg (by omega), if_neg (by omega)]
  | n + 1, i, d, h1, h2, t => by
    rw [swapR, swapR_get a b n (i + 1) _ (by omega) (by rw [size_swp]; omega) t]
    have g := swp_get d (show a + i < d.size by omega) (show b + i < d.size by omega)
    simp only [g]
    by_cases e1 : t = a + i
    · subst e1
      rw [if_neg (by omega), if_neg (by omega), if_neg (by omega), if_pos rfl, if_pos (by omega), show a + i + b - a = b + i by omega]
    · by_cases e2 : t = b + i
      · subst e2
        rw [if_neg (by omega), if_neg (by omega), if_pos rfl, if_neg (by omega), if_pos (by omega), show b + i + a - b = a + i by omega]
      · by_cases e3 : a + (i + 1) ≤ t ∧ t < a + (i + 1) + n
        · rw [if_pos e3, if_neg (by omega), if_neg (by omega), if_pos (by omega)]
        · rw [if_neg e3]
          by_cases e4 : b + (i + 1) ≤ t ∧ t < b + (i + 1) + n
          · rw [if_pos e4, if_neg (by omega), if_neg (by omega), if_neg (by omega), if_pos (by omega)]
          · rw [if_neg e4, if_neg e2, if_neg e1, if_neg (by omega), if_neg (by omega)]
theorem rotR_perm (lo hi m : Nat) : ∀ f i j (d : Array α), 0 < i → 0 < j → i ≤ m → lo ≤ m - i → m + j ≤ hi → hi ≤ d.size → i + j ≤ f + 1 → PermIn lo hi d (rotR m f i j d)
  | 0, i, j, d, h0, h1, _, _, _, _, h2 => by omega
  | f + 1, i, j, d, h0, h1, him, hlo, hhi, hs, h2 => by
    rw [rotR]
    split
    · exact swapR_perm lo hi _ _ _ _ _ (by omega) (by omega) (by omega) hs
    · split
      · exact permIn_trans _ _ _ _ _ (swapR_perm lo hi _ _ _ _ _ (by omega) (by omega) (by omega) hs) (rotR_perm lo hi m f _ _ _ (by omega) h1 (by omega) (by omega) hhi (by rw [size_swapR]; exact hs) (by omega))
      · exact permIn_trans _ _ _ _ _ (swapR_perm lo hi _ _ _ _ _ (by omega) (by omega) (by omega) hs) (rotR_perm lo hi m f _ _ _ h0 (by omega) him hlo (by omega) (by rw [size_swapR]; exact hs) (by omega))
theorem rotR_get (m : Nat) : ∀ f i j (d : Array α), 0 < i → 0 < j → i ≤ m → m + j ≤ d.size → i + j ≤ f + 1 → ∀ t, (rotR m f i j d)[t]! = if m - i ≤ t ∧ t < m - i + j then d[t + i]! else if m - i + j ≤ t ∧ t < m + j then d[t - j]! else d[t]!
  | 0, i, j, d, h0, h1, _, _, h2, t => by omega
  | f + 1, i, j, d, h0, h1, him, hs, h2, t => by
    obtain ⟨l, rfl⟩ : ∃ l, m = l + i := ⟨m - i, by omega⟩
    rw [rotR]
    simp only [Nat.add_sub_cancel]
    split
    · rename_i e
      subst e
      rw [swapR_get _ _ _ _ _ (by omega) (by omega)]
      by_cases e1 : l ≤ t <;> by_cases e2 : t < l + i <;> by_cases e3 : t < l + i + i
      all_goals (repeat (first | rw [if_pos (by omega)] | rw [if_neg (by omega)]))
      all_goals (first | rfl | (congr 1; omega) | omega)
    · split
      · rw [rotR_get (l + i) f (i - j) j _ (by omega) h1 (by omega) (by rw [size_swapR]; exact hs) (by omega)]
        simp only [swapR_get l (l + i) j 0 d (by omega) (by omega)]
        by_cases e1 : l ≤ t <;> by_cases e2 : t < l + j <;> by_cases e3 : t < l + j + j <;> by_cases e4 : t < l + i <;> by_cases e5 : t < l + i + j
        all_goals (repeat (first | rw [if_pos (by omega)] | rw [if_neg (by omega)]))
        all_goals (first | rfl | (congr 1; omega) | omega)
      · rw [rotR_get (l + i) f i (j - i) _ h0 (by omega) him (by rw [size_swapR]; omega) (by omega)]
        have e9 : l + i + j - i = l + j := by omega
        rw [e9]
        simp only [Nat.add_sub_cancel, swapR_get l (l + j) i 0 d (by omega) (by omega)]
        by_cases e1 : l ≤ t <;> by_cases e2 : t < l + (j - i) <;> by_cases e3 : t < l + j <;> by_cases e4 : t < l + j + i <;> by_cases e5 : t < l + i
        all_goals (repeat (first | rw [if_pos (by omega)] | rw [if_neg (by omega)]))
        all_goals (first | rfl | (congr 1; omega) | omega)
end
section
variable {α : Type} [Inhabited α]
theorem bs_spec (p : Nat → Bool) : ∀ f i j, i ≤ j → j - i ≤ f → (bs p f i j = i ∨ p (bs p f i j - 1) = true) ∧ (bs p f i j = j ∨ p (bs p f i j) = false)
  | 0, i, j, h, h2 => ⟨.inl rfl, .inl (by rw [bs]; omega)⟩
  | f + 1, i, j, h, h2 => by
    rw [bs]
    split
    · split
      · rename_i hp
        obtain ⟨h3, h4⟩ := bs_spec p f ((i + j) / 2 + 1) j (by omega) (by omega)
        refine ⟨.inr ?_, h4⟩
        rcases h3 with h3 | h3
        · rw [h3]
          exact hp
        · exact h3
      · rename_i hp
        obtain ⟨h3, h4⟩ := bs_spec p f i ((i + j) / 2) (by omega) (by omega)
        refine ⟨h3, .inr ?_⟩
        rcases h4 with h4 | h4
        · rw [h4]
          simpa using hp
        · exact h4
    · exact ⟨.inl rfl, .inl (by omega)⟩
theorem bubUp_perm (lo hi : Nat) : ∀ n k (d : Array α), lo ≤ k → k + n < hi → hi ≤ d.size → PermIn lo hi d (bubUp n k d)
  | 0, k, d, _, _, _ => permIn_refl d lo hi
  | n + 1, k, d, h1, h2, h3 => by
    rw [bubUp]
    exact permIn_trans _ _ _ _ _ (swp_permIn d lo hi k (k + 1) (by omega) (by omega) (by omega) (by omega) h3) (bubUp_perm lo hi n (k + 1) _ (by omega) (by omega) (by rw [size_swp]; exact h3))
theorem bubUp_get : ∀ n k (d : Array α), k + n < d.size → ∀ t, (bubUp n k d)[t]! = if k ≤ t ∧ t < k + n then d[t + 1]! else if t = k + n then d[k]! else d[t]!
  | 0, k, d, h, t => by
    rw [bubUp, if_neg (by omega)]
    by_cases e : t = k + 0
    · rw [if_pos e, e, Nat.add_zero]
    · rw [if_neg e]
  | n + 1, k, d, h, t => by
    rw [bubUp, bubUp_get n (k + 1) _ (by rw [size_swp]; omega) t]
    have g := swp_get d (show k < d.size by omega) (show k + 1 < d.size by omega)
    simp only [g]
    by_cases e1 : t < k <;> by_cases e2 : t = k <;> by_cases e3 : t < k + n + 1 <;> by_cases e4 : t = k + n + 1
    all_goals (repeat (first | rw [if_pos trivial] | rw [if_pos (by omega)] | rw [if_neg (by omega)]))
    all_goals (first | rfl | (congr 1; omega) | omega)
theorem bubDn_perm (lo hi : Nat) : ∀ n k (d : Array α), lo + n ≤ k → k < hi → hi ≤ d.size → PermIn lo hi d (bubDn n k d)
  | 0, k, d, _, _, _ => permIn_refl d lo hi
  | n + 1, k, d, h1, h2, h3 => by
    rw [bubDn]
    exact permIn_trans _ _ _ _ _ (swp_permIn d lo hi k (k - 1) (by omega) (by omega) (by omega) (by omega) h3) (bubDn_perm lo hi n (k - 1) _ (by omega) (by omega) (by rw [size_swp]; exact h3))
theorem bubDn_get : ∀ n k (d : Array α), n ≤ k → k < d.size → ∀ t, (bubDn n k d)[t]! = if k - n < t ∧ t ≤ k then d[t - 1]! else if t = k - n then d[k]! else d[t]!
  | 0, k, d, h, h2, t => by
    rw [bubDn, if_neg (by omega)]
    by_cases e : t = k - 0
    · rw [if_pos e, e, Nat.sub_zero]
    · rw [if_neg e]
  | n + 1, k, d, h, h2, t => by
    rw [bubDn, bubDn_get n (k - 1) _ (by omega) (by rw [size_swp]; omega) t]
    have g := swp_get d (show k < d.size by omega) (show k - 1 < d.size by omega)
    simp only [g]
    by_cases e1 : k < t <;> by_cases e2 : t = k <;> by_cases e3 : k - (n + 1) < t <;> by_cases e4 : t = k - (n + 1)
    all_goals (repeat (first | rw [if_pos trivial] | rw [if_pos (by omega)] | rw [if_neg (by omega)]))
    all_goals (first | rfl | (congr 1; omega) | omega)
theorem perm_get {lo hi : Nat} {d d' : Array α} (h : PermIn lo hi d d') (hs : hi ≤ d.size) {t : Nat} (h1 : lo ≤ t) (h2 : t < hi) : ∃ s, lo ≤ s ∧ s < hi ∧ d'[t]! = d[s]! :=
  permIn_all d d' lo hi (fun x => ∃ s, lo ≤ s ∧ s < hi ∧ x = d[s]!) hs h (fun i h1 h2 => ⟨i, h1, h2, rfl⟩) t h1 h2
variable {lt lt2 : α → α → Bool}
def MergeOf (lt2 : α → α → Bool) (a b : Nat) (d d' : Array α) : Prop := PermIn a b d d' ∧ SortedIn lt2 a b d'
theorem symA_holds (hS : SWO lt2) (d : Array α) (a m b : Nat) (ham : a < m) (hmb : m < b) (hb : b ≤ d.size) (h2 : SortedIn lt2 m b d) (hag : ∀ i j, a ≤ i → i < m → m ≤ j → j < b → lt d[j]! d[i]! = lt2 d[j]! d[i]!) (h1 : m - a = 1) :
    MergeOf lt2 a b d (bubUp (bs (fun h => lt d[h]! d[a]!) (b - m) m b - 1 - a) a d) := by
  obtain ⟨q1, q2⟩ := bs_le (fun h => lt d[h]! d[a]!) (b - m) m b (by omega)
  obtain ⟨q3, q4⟩ := bs_spec (fun h => lt d[h]! d[a]!) (b - m) m b (by omega) (by omega)
  generalize bs (fun h => lt d[h]! d[a]!) (b - m) m b = i at q1 q2 q3 q4
  have lo : ∀ h, m ≤ h → h < i → lt2 d[a]! d[h]! = false := fun h hm hi => by
    have h3 : lt d[i - 1]! d[a]! = true := by
      rcases q3 with q3 | q3
      · omega
      · exact q3
    rw [hag a (i - 1) (by omega) (by omega) (by omega) (by omega)] at h3
    have h4 := hS.asymmA h3
    by_cases e : h = i - 1
    · rw [e]
      exact h4
    · exact hS.ntrans _ _ _ h4 (h2 h (i - 1) hm (by omega) (by omega))
  have up : ∀ h, i ≤ h → h < b → lt2 d[h]! d[a]! = false := fun h hi hh => by
    have h3 : lt d[i]! d[a]! = false := by
      rcases q4 with q4 | q4
      · omega
      · exact q4
    rw [hag a i (by omega) (by omega) (by omega) (by omega)] at h3
    by_cases e : h = i
    · rw [e]
      exact h3
    · exact hS.ntrans _ _ _ (h2 i h (by omega) (by omega) hh) h3
  refine ⟨bubUp_perm a b _ _ _ (by omega) (by omega) hb, fun p q hp hpq hq => ?_⟩
  have g := bubUp_get (i - 1 - a) a d (by omega)
  rw [g, g]
  by_cases p1 : p < i - 1
  · rw [if_pos (show a ≤ p ∧ p < a + (i - 1 - a) by omega)]
    by_cases q5 : q < i - 1
    · rw [if_pos (show a ≤ q ∧ q < a + (i - 1 - a) by omega)]
      exact h2 _ _ (by omega) (by omega) (by omega)
    · rw [if_neg (by omega)]
      by_cases q6 : q = i - 1
      · rw [if_pos (by omega)]
        exact lo _ (by omega) (by omega)
      · rw [if_neg (by omega)]
        exact h2 _ _ (by omega) (by omega) (by omega)
  · rw [if_neg (show ¬ (a ≤ p ∧ p < a + (i - 1 - a)) by omega), if_neg (show ¬ (a ≤ q ∧ q < a + (i - 1 - a)) by omega), if_neg (show ¬ q = a + (i - 1 - a) by omega)]
    by_cases p2 : p = i - 1
    · rw [if_pos (by omega)]
      exact up _ (by omega) (by omega)
    · rw [if_neg (by omega)]
      exact h2 _ _ (by omega) (by omega) (by omega)
theorem symB_holds (hS : SWO lt2) (d : Array α) (a m b : Nat) (ham : a < m) (hmb : m < b) (hb : b ≤ d.size) (h2 : SortedIn lt2 a m d) (hag : ∀ i j, a ≤ i → i < m → m ≤ j → j < b → lt d[j]! d[i]! = lt2 d[j]! d[i]!) (h1 : b - m = 1) :
    MergeOf lt2 a b d (bubDn (m - bs (fun h => !lt d[m]! d[h]!) (m - a) a m) m d) := by
  obtain ⟨q1, q2⟩ := bs_le (fun h => !lt d[m]! d[h]!) (m - a) a m (by omega)
  obtain ⟨q3, q4⟩ := bs_spec (fun h => !lt d[m]! d[h]!) (m - a) a m (by omega) (by omega)
  generalize bs (fun h => !lt d[m]! d[h]!) (m - a) a m = i at q1 q2 q3 q4
  have lo : ∀ h, a ≤ h → h < i → lt2 d[m]! d[h]! = false := fun h hm hi => by
    have h3 : lt d[m]! d[i - 1]! = false := by
      rcases q3 with q3 | q3
      · omega
      · simpa using q3
    rw [hag (i - 1) m (by omega) (by omega) (by omega) (by omega)] at h3
    by_cases e : h = i - 1
    · rw [e]
      exact h3
    · exact hS.ntrans _ _ _ h3 (h2 h (i - 1) hm (by omega) (by omega))
  have up : ∀ h, i ≤ h → h < m → lt2 d[h]! d[m]! = false := fun h hi hh => by
    have h3 : lt d[m]! d[i]! = true := by
      rcases q4 with q4 | q4
      · omega
      · simpa using q4
    rw [hag i m (by omega) (by omega) (by omega) (by omega)] at h3
    have h4 := hS.asymmA h3
    by_cases e : h = i
    · rw [e]
      exact h4
    · exact hS.ntrans _ _ _ (h2 i h (by omega) (by omega) hh) h4
  refine ⟨bubDn_perm a b _ _ _ (by omega) (by omega) hb, fun p q hp hpq hq => ?_⟩
  have g := bubDn_get (m - i) m d (by omega) (by omega)
  rw [g, g]
  have e1 : m - (m - i) = i := by omega
  rw [e1]
  by_cases p1 : p < i
  · rw [if_neg (show ¬ (i < p ∧ p ≤ m) by omega), if_neg (show ¬ p = i by omega)]
    by_cases q5 : i < q
    · rw [if_pos (by omega)]
      exact h2 _ _ (by omega) (by omega) (by omega)
    · rw [if_neg (by omega)]
      by_cases q6 : q = i
      · rw [if_pos (by omega)]
        exact lo _ (by omega) (by omega)
      · rw [if_neg (by omega)]
        exact h2 _ _ (by omega) (by omega) (by omega)
  · rw [if_pos (show i < q ∧ q ≤ m by omega)]
    by_cases p2 : p = i
    · rw [if_neg (by omega), if_pos p2]
      exact up _ (by omega) (by omega)
    · rw [if_pos (by omega)]
      exact h2 _ _ (by omega) (by omega) (by omega)
theorem symM_holds (hS : SWO lt2) : ∀ f (d : Array α) (a m b : Nat), b - a ≤ f → a < m → m < b → b ≤ d.size → SortedIn lt2 a m d → SortedIn lt2 m b d → (∀ i j, a ≤ i → i < m → m ≤ j → j < b → lt d[j]! d[i]! = lt2 d[j]! d[i]!) →
    MergeOf lt2 a b d (symM lt f d a m b)
  | 0, d, a, m, b, hf, ham, hmb, _, _, _, _ => by omega
  | f + 1, d, a, m, b, hf, ham, hmb, hb, s1, s2, hag => by
    rw [symM]
    split
    · rename_i h1
      exact symA_holds hS d a m b ham hmb hb s2 hag h1
    · split
      · rename_i h1 h2
        exact symB_holds hS d a m b ham hmb hb s1 hag h2
      · rename_i h1 h2
        have hst : ∃ lo hi, a ≤ lo ∧ lo ≤ hi ∧ hi ≤ m ∧ hi ≤ (a + b) / 2 ∧ (a + b) / 2 + m - lo ≤ b ∧ m ≤ (a + b) / 2 + m - hi ∧ lo ≤ symSt lt d a m b ∧ symSt lt d a m b ≤ hi ∧ (lo = a ∨ (a + b) / 2 + m - lo = b) ∧ (hi = m ∨ hi = (a + b) / 2) ∧
            (symSt lt d a m b = lo ∨ (!lt d[(a + b) / 2 + m - 1 - (symSt lt d a m b - 1)]! d[symSt lt d a m b - 1]!) = true) ∧ (symSt lt d a m b = hi ∨ (!lt d[(a + b) / 2 + m - 1 - symSt lt d a m b]! d[symSt lt d a m b]!) = false) := by
          unfold symSt
          split
          · refine ⟨(a + b) / 2 + m - b, (a + b) / 2, by omega, by omega, by omega, by omega, by omega, by omega, (bs_le _ _ _ _ (by omega)).1, (bs_le _ _ _ _ (by omega)).2, by omega, .inr rfl, bs_spec (fun c => !lt d[(a + b) / 2 + m - 1 - c]! d[c]!) (b - a) _ _ (by omega) (by omega)⟩
          · refine ⟨a, m, by omega, by omega, by omega, by omega, by omega, by omega, (bs_le _ _ _ _ (by omega)).1, (bs_le _ _ _ _ (by omega)).2, .inl rfl, .inl rfl, bs_spec (fun c => !lt d[(a + b) / 2 + m - 1 - c]! d[c]!) (b - a) _ _ (by omega) (by omega)⟩
        obtain ⟨lo, hi, r1, r2, r3, r4, r5, r6, r7, r8, r9, r10, r11, r12⟩ := hst
        generalize symSt lt d a m b = st at r7 r8 r11 r12
        simp only
        generalize hen : (a + b) / 2 + m - st = en
        have hmid : (a + b) / 2 = st + en - m := by omega
        generalize hmd : (a + b) / 2 = mid at *
        -- the four parts
        have x1 : ∀ p q, a ≤ p → p < st → en ≤ q → q < b → lt2 d[q]! d[p]! = false := fun p q hp1 hp2 hq1 hq2 => by
          have h3 : lt d[en]! d[st - 1]! = false := by
            rcases r11 with r11 | r11
            · omega
            · have e : mid + m - 1 - (st - 1) = en := by omega
              rw [e] at r11
              simpa using r11
          rw [hag (st - 1) en (by omega) (by omega) (by omega) (by omega)] at h3
          have h4 : lt2 d[en]! d[p]! = false := by
            by_cases e : p = st - 1
            · rw [e]
              exact h3
            · exact hS.ntrans _ _ _ h3 (s1 p (st - 1) hp1 (by omega) (by omega))
          by_cases e : q = en
          · rw [e]
            exact h4
          · exact hS.ntrans _ _ _ (s2 en q (by omega) (by omega) hq2) h4
        have x2 : ∀ p q, m ≤ p → p < en → st ≤ q → q < m → lt2 d[q]! d[p]! = false := fun p q hp1 hp2 hq1 hq2 => by
          have h3 : lt d[en - 1]! d[st]! = true := by
            rcases r12 with r12 | r12
            · omega
            · have e : mid + m - 1 - st = en - 1 := by omega
              rw [e] at r12
              simpa using r12
          rw [hag st (en - 1) (by omega) (by omega) (by omega) (by omega)] at h3
          have h5 := hS.asymmA h3
          have h4 : lt2 d[st]! d[p]! = false := by
            by_cases e : p = en - 1
            · rw [e]
              exact h5
            · exact hS.ntrans _ _ _ h5 (s2 p (en - 1) hp1 (by omega) (by omega))
          by_cases e : q = st
          · rw [e]
            exact h4
          · exact hS.ntrans _ _ _ (s1 st q (by omega) (by omega) hq2) h4
        have g1 : ∀ t, (if st < m ∧ m < en then rotate d st m en else d)[t]! = if st ≤ t ∧ t < mid then d[t + (m - st)]! else if mid ≤ t ∧ t < en then d[t - (en - m)]! else d[t]! := fun t => by
          split
          · unfold rotate
            rw [rotR_get m (en - st) (m - st) (en - m) d (by omega) (by omega) (by omega) (by omega) (by omega)]
            rw [show m - (m - st) = st by omega, show st + (en - m) = mid by omega, show m + (en - m) = en by omega]
          · by_cases e1 : st ≤ t ∧ t < mid
            · rw [if_pos e1]
              congr 1
              omega
            · rw [if_neg e1]
              by_cases e2 : mid ≤ t ∧ t < en
              · rw [if_pos e2]
                congr 1
                omega
              · rw [if_neg e2]
        have p1 : PermIn a b d (if st < m ∧ m < en then rotate d st m en else d) := by
          split
          · unfold rotate
            exact rotR_perm a b m _ _ _ _ (by omega) (by omega) (by omega) (by omega) (by omega) hb (by omega)
          · exact permIn_refl _ _ _
        generalize (if st < m ∧ m < en then rotate d st m en else d) = d1 at g1 p1
        have z1 : b ≤ d1.size := by rw [p1.1]; exact hb
        have gL1 : ∀ t, t < st → d1[t]! = d[t]! := fun t h => by rw [g1, if_neg (by omega), if_neg (by omega)]
        have gR1 : ∀ t, st ≤ t → t < mid → d1[t]! = d[t + (m - st)]! := fun t h h' => by rw [g1, if_pos ⟨h, h'⟩]
        have gL2 : ∀ t, mid ≤ t → t < en → d1[t]! = d[t - (en - m)]! := fun t h h' => by rw [g1, if_neg (by omega), if_pos ⟨h, h'⟩]
        have gR2 : ∀ t, en ≤ t → d1[t]! = d[t]! := fun t h => by rw [g1, if_neg (by omega), if_neg (by omega)]
        have cross : ∀ s u, a ≤ s → s < mid → mid ≤ u → u < b → lt2 d1[u]! d1[s]! = false := fun s u h1 h2 h3 h4 => by
          by_cases e1 : s < st
          · rw [gL1 s e1]
            by_cases e2 : u < en
            · rw [gL2 u h3 e2]
              exact s1 _ _ h1 (by omega) (by omega)
            · rw [gR2 u (by omega)]
              exact x1 _ _ h1 e1 (by omega) h4
          · rw [gR1 s (by omega) h2]
            by_cases e2 : u < en
            · rw [gL2 u h3 e2]
              exact x2 _ _ (by omega) (by omega) (by omega) (by omega)
            · rw [gR2 u (by omega)]
              exact s2 _ _ (by omega) (by omega) h4
        clear x1 x2 g1
        have p2 : MergeOf lt2 a mid d1 (if a < st ∧ st < mid then symM lt f d1 a st mid else d1) := by
          split
          · rename_i hc
            refine symM_holds hS f d1 a st mid (by omega) hc.1 hc.2 (by omega) (fun p q hp hpq hq => ?_) (fun p q hp hpq hq => ?_) fun i j hi hi2 hj hj2 => ?_
            · rw [gL1 p (by omega), gL1 q hq]
              exact s1 _ _ hp hpq (by omega)
            · rw [gR1 p hp (by omega), gR1 q (by omega) hq]
              exact s2 _ _ (by omega) (by omega) (by omega)
            · rw [gL1 i hi2, gR1 j hj hj2]
              exact hag _ _ hi (by omega) (by omega) (by omega)
          · rename_i hc
            refine ⟨permIn_refl _ _ _, fun p q hp hpq hq => ?_⟩
            by_cases e : st ≤ a
            · rw [gR1 p (by omega) (by omega), gR1 q (by omega) hq]
              exact s2 _ _ (by omega) (by omega) (by omega)
            · rw [gL1 p (by omega), gL1 q (by omega)]
              exact s1 _ _ hp hpq (by omega)
        generalize (if a < st ∧ st < mid then symM lt f d1 a st mid else d1) = d2 at p2
        obtain ⟨p2, s3⟩ := p2
        have z2 : b ≤ d2.size := by rw [p2.1]; exact z1
        have g2 : ∀ t, mid ≤ t → d2[t]! = d1[t]! := fun t h => p2.2.1 t (.inr h)
        have p3 : MergeOf lt2 mid b d2 (if mid < en ∧ en < b then symM lt f d2 mid en b else d2) := by
          split
          · rename_i hc
            refine symM_holds hS f d2 mid en b (by omega) hc.1 hc.2 z2 (fun p q hp hpq hq => ?_) (fun p q hp hpq hq => ?_) fun i j hi hi2 hj hj2 => ?_
            · rw [g2 p hp, g2 q (by omega), gL2 p hp (by omega), gL2 q (by omega) hq]
              exact s1 _ _ (by omega) (by omega) (by omega)
            · rw [g2 p (by omega), g2 q (by omega), gR2 p hp, gR2 q (by omega)]
              exact s2 _ _ (by omega) (by omega) (by omega)
            · rw [g2 i hi, g2 j (by omega), gL2 i hi hi2, gR2 j hj]
              exact hag _ _ (by omega) (by omega) (by omega) (by omega)
          · rename_i hc
            refine ⟨permIn_refl _ _ _, fun p q hp hpq hq => ?_⟩
            by_cases e : en ≤ mid
            · rw [g2 p hp, g2 q (by omega), gR2 p (by omega), gR2 q (by omega)]
              exact s2 _ _ (by omega) (by omega) (by omega)
            · rw [g2 p hp, g2 q (by omega), gL2 p hp (by omega), gL2 q (by omega) (by omega)]
              exact s1 _ _ (by omega) (by omega) (by omega)
        generalize (if mid < en ∧ en < b then symM lt f d2 mid en b else d2) = d3 at p3
        obtain ⟨p3, s4⟩ := p3
        refine ⟨permIn_trans _ _ _ _ _ p1 (permIn_trans _ _ _ _ _ (permIn_mono _ _ a mid a b (Nat.le_refl _) (by omega) z1 p2) (permIn_mono _ _ mid b a b (by omega) (Nat.le_refl _) z2 p3)), fun p q hp hpq hq => ?_⟩
        by_cases e1 : q < mid
        · rw [p3.2.1 q (.inl e1), p3.2.1 p (.inl (by omega))]
          exact s3 p q hp hpq e1
        · by_cases e2 : mid ≤ p
          · exact s4 p q e2 hpq hq
          · rw [p3.2.1 p (.inl (by omega))]
            obtain ⟨s, q1, q2, q3⟩ := perm_get p2 (by omega) hp (show p < mid by omega)
            obtain ⟨u, q4, q5, q6⟩ := perm_get p3 z2 (show mid ≤ q by omega) hq
            rw [q3, q6, g2 u q4]
            exact cross s u q1 q2 q4 q5
end
section
variable {α : Type} [Inhabited α] {lt lt2 : α → α → Bool}
theorem insInner_perm (a b : Nat) : ∀ j (d : Array α), j < b → b ≤ d.size → PermIn a b d (insInner lt a j d)
  | 0, d, _, _ => by
    rw [insInner]
    exact permIn_refl d a b
  | j + 1, d, h, hs => by
    rw [insInner]
    split
    · rename_i hc
      simp only [Bool.and_eq_true, decide_eq_true_eq] at hc
      exact permIn_trans _ _ _ _ _ (swp_permIn d a b (j + 1) j (by omega) h (by omega) (by omega) hs) (insInner_perm a b j _ (by omega) (by rw [size_swp]; exact hs))
    · exact permIn_refl d a b
theorem insInner_agree (a : Nat) : ∀ j (d : Array α), j < d.size → (∀ p, a ≤ p → p < j → lt d[j]! d[p]! = lt2 d[j]! d[p]!) → insInner lt a j d = insInner lt2 a j d
  | 0, d, _, _ => by rw [insInner, insInner]
  | j + 1, d, h, hag => by
    rw [insInner, insInner]
    by_cases ha : j + 1 > a
    · rw [hag j (by omega) (by omega)]
      split
      · refine insInner_agree a j _ (by rw [size_swp]; omega) fun p hp hpj => ?_
        rw [swp_right d (j + 1) j (by omega), swp_other d (j + 1) j p (by omega) (by omega)]
        exact hag p hp (by omega)
      · rfl
    · simp [ha]
theorem insOuter_agree (a b : Nat) : ∀ n i (d : Array α), b - i = n → a ≤ i → b ≤ d.size → (∀ q, i ≤ q → q < b → ∀ p, a ≤ p → p < q → lt d[q]! d[p]! = lt2 d[q]! d[p]!) → insOuter lt a b i d = insOuter lt2 a b i d
  | 0, i, d, hn, hai, hb, hag => by
    rw [insOuter, insOuter.eq_def lt2, if_neg (by omega), if_neg (by omega)]
  | n + 1, i, d, hn, hai, hb, hag => by
    have hlt : i < b := by omega
    rw [insOuter, insOuter.eq_def lt2, if_pos hlt, if_pos hlt, insInner_agree a i d (by omega) (hag i (Nat.le_refl _) hlt)]
    have hp := insInner_perm (lt := lt2) a (i + 1) i d (by omega) (by omega)
    refine insOuter_agree a b n (i + 1) _ (by omega) (by omega) (by rw [hp.1]; exact hb) fun q hq hqb p hpa hpq => ?_
    rw [hp.2.1 q (.inr hq)]
    by_cases e : p < i + 1
    · exact permIn_all d _ a (i + 1) (fun x => lt d[q]! x = lt2 d[q]! x) (by omega) hp (fun s h1 h2 => hag q (by omega) hqb s h1 (by omega)) p hpa e
    · rw [hp.2.1 p (.inr (by omega))]
      exact hag q (by omega) hqb p hpa hpq
theorem insertionSort_agree (d : Array α) (a b : Nat) (hb : b ≤ d.size) (hag : ∀ p q, a ≤ p → p < q → q < b → lt d[q]! d[p]! = lt2 d[q]! d[p]!) : insertionSort lt d a b = insertionSort lt2 d a b :=
  insOuter_agree a b _ (a + 1) d rfl (by omega) hb fun q _ hq p hp hpq => hag p q hp hpq hq
def insB (lt : α → α → Bool) (n : Nat) : Nat → Nat → Array α → Array α
  | 0, a, d => insertionSort lt d a n
  | f + 1, a, d => if a + 20 ≤ n then insB lt n f (a + 20) (insertionSort lt d a (a + 20)) else insertionSort lt d a n
def mrgP (lt : α → α → Bool) (n s : Nat) : Nat → Nat → Array α → Array α
  | 0, _, d => d
  | f + 1, a, d => if a + 2 * s ≤ n then mrgP lt n s f (a + 2 * s) (symM lt (2 * s) d a (a + s) (a + 2 * s)) else if a + s < n then symM lt (n - a) d a (a + s) n else d
def mrgA (lt : α → α → Bool) (n : Nat) : Nat → Nat → Array α → Array α
  | 0, _, d => d
  | f + 1, s, d => if s < n then mrgA lt n f (2 * s) (mrgP lt n s n 0 d) else d
def stab (lt : α → α → Bool) (n : Nat) (d : Array α) : Array α := mrgA lt n n 20 (insB lt n n 0 d)
variable {key : α → Int}
def Runs (lt2 : α → α → Bool) (key : α → Int) (n : Nat) (B : Nat → Prop) (d : Array α) : Prop :=
  ∀ p q, p < q → q < n → ((∀ c, B c → p < c → ¬ c ≤ q) → lt2 d[q]! d[p]! = false) ∧ (∀ c, B c → p < c → c ≤ q → key d[p]! < key d[q]!)
theorem Runs.congr {n : Nat} {B B' : Nat → Prop} {d : Array α} (h : Runs lt2 key n B d) (he : ∀ c, 0 < c → c < n → (B c ↔ B' c)) : Runs lt2 key n B' d := fun p q hpq hq => by
  obtain ⟨h1, h2⟩ := h p q hpq hq
  exact ⟨fun hc => h1 fun c hb h3 h4 => hc c ((he c (by omega) (by omega)).1 hb) h3 h4, fun c hb h3 h4 => h2 c ((he c (by omega) (by omega)).2 hb) h3 h4⟩
theorem Runs.step {n a b : Nat} {B : Nat → Prop} {d d' : Array α} (h : Runs lt2 key n B d) (hm : MergeOf lt2 a b d d') (ha : a = 0 ∨ B a) (hb : b = n ∨ B b) (hbn : b ≤ n) (hn : n ≤ d.size) : Runs lt2 key n (fun c => B c ∧ ¬ (a < c ∧ c < b)) d' := fun p q hpq hq => by
  obtain ⟨hp, hs⟩ := hm
  refine ⟨fun hc => ?_, fun c ⟨hbc, hac⟩ h3 h4 => ?_⟩
  · by_cases e1 : q < a
    · rw [hp.2.1 p (.inl (by omega)), hp.2.1 q (.inl e1)]
      exact (h p q hpq hq).1 fun c hb h3 h4 => hc c ⟨hb, by omega⟩ h3 h4
    · by_cases e2 : b ≤ p
      · rw [hp.2.1 p (.inr e2), hp.2.1 q (.inr (by omega))]
        exact (h p q hpq hq).1 fun c hb h3 h4 => hc c ⟨hb, by omega⟩ h3 h4
      · have e3 : a ≤ p := by
          rcases ha with ha | ha
          · omega
          · have := hc a ⟨ha, by omega⟩
            omega
        have e4 : q < b := by
          rcases hb with hb | hb
          · omega
          · have := hc b ⟨hb, by omega⟩
            omega
        exact hs p q e3 hpq e4
  · have hk : ∀ s u, s < c → c ≤ u → u < n → key d[s]! < key d[u]! := fun s u h5 h6 h7 => (h s u (by omega) h7).2 c hbc h5 h6
    by_cases e : c ≤ a
    · rw [hp.2.1 p (.inl (by omega))]
      by_cases e2 : a ≤ q ∧ q < b
      · exact permIn_all d d' a b (fun x => key d[p]! < key x) (by omega) hp (fun s h5 h6 => hk p s h3 (by omega) (by omega)) q e2.1 e2.2
      · rw [hp.2.1 q (by omega)]
        exact hk p q h3 h4 hq
    · have e3 : b ≤ c := by omega
      rw [hp.2.1 q (.inr (by omega))]
      by_cases e2 : a ≤ p ∧ p < b
      · exact permIn_all d d' a b (fun x => key x < key d[q]!) (by omega) hp (fun s h5 h6 => hk s q (by omega) h4 hq) p e2.1 e2.2
      · rw [hp.2.1 p (by omega)]
        exact hk p q h3 h4 hq
def Agree (lt lt2 : α → α → Bool) (key : α → Int) : Prop := ∀ x y, key y < key x → lt x y = lt2 x y
theorem ins_step (hS : SWO lt2) (hA : Agree lt lt2 key) {n a b : Nat} {B : Nat → Prop} {d : Array α} (h : Runs lt2 key n B d) (hB : ∀ c, a < c → c < b → B c) (hab : a ≤ b) (hbn : b ≤ n) (hn : n ≤ d.size) : MergeOf lt2 a b d (insertionSort lt d a b) := by
  rw [insertionSort_agree d a b (by omega) fun p q hp hpq hq => hA _ _ ((h p q hpq (by omega)).2 q (hB q (by omega) hq) hpq (Nat.le_refl _))]
  exact insertionSort_holds hS d a b hab (by omega)
theorem insB_holds (hS : SWO lt2) (hA : Agree lt lt2 key) (n : Nat) : ∀ f a (d : Array α), n ≤ d.size → a % 20 = 0 → a ≤ n → n ≤ a + 20 * f → Runs lt2 key n (fun c => c % 20 = 0 ∨ a < c) d →
    PermIn 0 n d (insB lt n f a d) ∧ Runs lt2 key n (fun c => c % 20 = 0) (insB lt n f a d)
  | 0, a, d, hn, ha, han, hf, h => by
    rw [insB]
    have hm := ins_step hS hA (b := n) h (fun c h1 _ => .inr h1) han (Nat.le_refl _) hn
    refine ⟨permIn_mono _ _ a n 0 n (Nat.zero_le _) (Nat.le_refl _) hn hm.1, (h.step hm (.inr (.inl ha)) (.inl rfl) (Nat.le_refl _) hn).congr fun c h1 h2 => ?_⟩
    omega
  | f + 1, a, d, hn, ha, han, hf, h => by
    rw [insB]
    split
    · rename_i hc
      have hm := ins_step hS hA (b := a + 20) h (fun c h1 _ => .inr h1) (by omega) hc hn
      obtain ⟨q1, q2⟩ := insB_holds hS hA n f (a + 20) _ (by rw [hm.1.1]; exact hn) (by omega) hc (by omega) ((h.step hm (.inr (.inl ha)) (.inr (.inl (by omega))) hc hn).congr fun c h1 h2 => by omega)
      exact ⟨permIn_trans _ _ _ _ _ (permIn_mono _ _ a (a + 20) 0 n (Nat.zero_le _) hc hn hm.1) q1, q2⟩
    · have hm := ins_step hS hA (b := n) h (fun c h1 _ => .inr h1) han (Nat.le_refl _) hn
      refine ⟨permIn_mono _ _ a n 0 n (Nat.zero_le _) (Nat.le_refl _) hn hm.1, (h.step hm (.inr (.inl ha)) (.inl rfl) (Nat.le_refl _) hn).congr fun c h1 h2 => ?_⟩
      omega
theorem mrg_step (hS : SWO lt2) (hA : Agree lt lt2 key) {n a m b f : Nat} {B : Nat → Prop} {d : Array α} (h : Runs lt2 key n B d) (hB : ∀ c, a < c → c < b → B c → c = m) (hBm : B m) (ham : a < m) (hmb : m < b) (hbn : b ≤ n) (hn : n ≤ d.size) (hf : b - a ≤ f) : MergeOf lt2 a b d (symM lt f d a m b) := by
  refine symM_holds hS f d a m b hf ham hmb (by omega) (fun p q hp hpq hq => (h p q hpq (by omega)).1 fun c hc h1 h2 => ?_) (fun p q hp hpq hq => (h p q hpq (by omega)).1 fun c hc h1 h2 => ?_) fun i j h1 h2 h3 h4 => hA _ _ ((h i j (by omega) (by omega)).2 m hBm h2 h3)
  · have := hB c (by omega) (by omega) hc
    omega
  · have := hB c (by omega) (by omega) hc
    omega
theorem dvd_between {s y c : Nat} (hs : 0 < s) (hc : s ∣ c) (h1 : 2 * s * y < c) (h2 : c < 2 * s * y + 2 * s) : c = 2 * s * y + s := by
  obtain ⟨x, rfl⟩ := hc
  have e : 2 * s * y = s * (2 * y) := by rw [Nat.mul_comm 2 s, Nat.mul_assoc]
  rw [e] at h1 h2 ⊢
  have h3 := Nat.lt_of_mul_lt_mul_left h1
  have h4 : s * x < s * (2 * y + 2) := by rw [Nat.mul_add]; omega
  have h5 := Nat.lt_of_mul_lt_mul_left h4
  have : x = 2 * y + 1 := by omega
  rw [this, Nat.mul_add, Nat.mul_one]
theorem dvd_dbl {s y : Nat} : s ∣ 2 * s * y := ⟨2 * y, by rw [Nat.mul_comm 2 s, Nat.mul_assoc]⟩
theorem mrgP_holds (hS : SWO lt2) (hA : Agree lt lt2 key) (n s : Nat) (hs : 0 < s) : ∀ f y (d : Array α), n ≤ d.size → n ≤ 2 * s * y + f → Runs lt2 key n (fun c => if c ≤ 2 * s * y then 2 * s ∣ c else s ∣ c) d →
    PermIn 0 n d (mrgP lt n s f (2 * s * y) d) ∧ Runs lt2 key n (fun c => 2 * s ∣ c) (mrgP lt n s f (2 * s * y) d)
  | 0, y, d, hn, hf, h => by
    rw [mrgP]
    exact ⟨permIn_refl _ _ _, h.congr fun c h1 h2 => by rw [if_pos (by omega)]⟩
  | f + 1, y, d, hn, hf, h => by
    have hy : 2 * s * (y + 1) = 2 * s * y + 2 * s := Nat.mul_succ _ _
    have hin : ∀ c, 2 * s * y < c → c < 2 * s * y + 2 * s → (if c ≤ 2 * s * y then 2 * s ∣ c else s ∣ c) → c = 2 * s * y + s := fun c h1 h2 h3 => by
      rw [if_neg (by omega)] at h3
      exact dvd_between hs h3 h1 h2
    have hmid : (if 2 * s * y + s ≤ 2 * s * y then 2 * s ∣ 2 * s * y + s else s ∣ 2 * s * y + s) := by
      rw [if_neg (by omega)]
      exact Nat.dvd_add dvd_dbl ⟨1, by omega⟩
    have hay : (if 2 * s * y ≤ 2 * s * y then 2 * s ∣ 2 * s * y else s ∣ 2 * s * y) := by
      rw [if_pos (Nat.le_refl _)]
      exact ⟨y, rfl⟩
    rw [mrgP]
    split
    · rename_i hc
      have hm := mrg_step hS hA (a := 2 * s * y) (m := 2 * s * y + s) (b := 2 * s * y + 2 * s) (f := 2 * s) h hin hmid (by omega) (by omega) hc hn (by omega)
      have hb2 : (if 2 * s * y + 2 * s ≤ 2 * s * y then 2 * s ∣ 2 * s * y + 2 * s else s ∣ 2 * s * y + 2 * s) := by
        rw [if_neg (by omega), ← hy]
        exact dvd_dbl
      have hst := h.step hm (.inr hay) (.inr hb2) hc hn
      rw [← hy] at hm hst ⊢
      have hrn := hst.congr (B' := fun c => if c ≤ 2 * s * (y + 1) then 2 * s ∣ c else s ∣ c) fun c h1 h2 => ?_
      · obtain ⟨q1, q2⟩ := mrgP_holds hS hA n s hs f (y + 1) _ (by rw [hm.1.1]; exact hn) (by omega) hrn
        exact ⟨permIn_trans _ _ _ _ _ (permIn_mono _ _ _ _ 0 n (Nat.zero_le _) (by omega) hn hm.1) q1, q2⟩
      · by_cases e1 : c ≤ 2 * s * y
        · rw [if_pos e1, if_pos (by omega)]
          constructor
          · rintro ⟨h3, -⟩
            exact h3
          · intro h3
            exact ⟨h3, by omega⟩
        · rw [if_neg e1]
          by_cases e2 : c < 2 * s * (y + 1)
          · rw [if_pos (by omega)]
            constructor
            · rintro ⟨-, h3⟩
              omega
            · rintro ⟨x, rfl⟩
              exfalso
              have h3 := Nat.lt_of_mul_lt_mul_left (Nat.lt_of_not_le e1)
              have h4 := Nat.lt_of_mul_lt_mul_left e2
              omega
          · by_cases e3 : c = 2 * s * (y + 1)
            · subst e3
              rw [if_pos (Nat.le_refl _)]
              constructor
              · intro _
                exact ⟨y + 1, rfl⟩
              · intro _
                exact ⟨dvd_dbl, by omega⟩
            · rw [if_neg (by omega)]
              constructor
              · rintro ⟨h3, -⟩
                exact h3
              · intro h3
                exact ⟨h3, by omega⟩
    · rename_i hc
      have hcc : ∀ c, 2 * s * y < c → c < n → ¬ 2 * s ∣ c := by
        rintro c h1 h2 ⟨x, rfl⟩
        have h3 := Nat.lt_of_mul_lt_mul_left h1
        have h4 : 2 * s * x < 2 * s * (y + 1) := by omega
        have h5 := Nat.lt_of_mul_lt_mul_left h4
        omega
      split
      · rename_i hc2
        have hm := mrg_step hS hA (a := 2 * s * y) (m := 2 * s * y + s) (b := n) (f := n - 2 * s * y) h (fun c h1 h2 h3 => hin c h1 (by omega) h3) hmid (by omega) hc2 (Nat.le_refl _) hn (Nat.le_refl _)
        refine ⟨permIn_mono _ _ _ _ 0 n (Nat.zero_le _) (Nat.le_refl _) hn hm.1, (h.step hm (.inr hay) (.inl rfl) (Nat.le_refl _) hn).congr fun c h1 h2 => ?_⟩
        by_cases e1 : c ≤ 2 * s * y
        · rw [if_pos e1]
          constructor
          · rintro ⟨h3, -⟩
            exact h3
          · intro h3
            exact ⟨h3, by omega⟩
        · constructor
          · rintro ⟨-, h3⟩
            omega
          · intro h3
            exact absurd h3 (hcc c (by omega) h2)
      · rename_i hc2
        refine ⟨permIn_refl _ _ _, h.congr fun c h1 h2 => ?_⟩
        by_cases e1 : c ≤ 2 * s * y
        · rw [if_pos e1]
        · rw [if_neg e1]
          constructor
          · intro h3
            have := dvd_between (y := y) hs h3 (by omega) (by omega)
            omega
          · intro h3
            exact absurd h3 (hcc c (by omega) h2)
theorem mrgA_holds (hS : SWO lt2) (hA : Agree lt lt2 key) (n : Nat) : ∀ f s (d : Array α), 0 < s → n ≤ s + f → n ≤ d.size → Runs lt2 key n (fun c => s ∣ c) d →
    PermIn 0 n d (mrgA lt n f s d) ∧ SortedIn lt2 0 n (mrgA lt n f s d)
  | 0, s, d, hs, hf, hn, h => by
    rw [mrgA]
    refine ⟨permIn_refl _ _ _, fun p q _ hpq hq => (h p q hpq hq).1 fun c ⟨x, hx⟩ h1 h2 => ?_⟩
    cases x with
    | zero => omega
    | succ x =>
      rw [Nat.mul_succ] at hx
      omega
  | f + 1, s, d, hs, hf, hn, h => by
    rw [mrgA]
    split
    · obtain ⟨q1, q2⟩ := mrgP_holds hS hA n s hs n 0 d hn (by omega) (h.congr fun c h1 h2 => by rw [if_neg (by omega)])
      rw [Nat.mul_zero] at q1 q2
      obtain ⟨q3, q4⟩ := mrgA_holds hS hA n f (2 * s) _ (by omega) (by omega) (by rw [q1.1]; exact hn) q2
      exact ⟨permIn_trans _ _ _ _ _ q1 q3, q4⟩
    · refine ⟨permIn_refl _ _ _, fun p q _ hpq hq => (h p q hpq hq).1 fun c ⟨x, hx⟩ h1 h2 => ?_⟩
      cases x with
      | zero => omega
      | succ x =>
        rw [Nat.mul_succ] at hx
        omega
theorem stab_holds (hS : SWO lt2) (hA : Agree lt lt2 key) (n : Nat) (d : Array α) (hn : n ≤ d.size) (hk : ∀ p q, p < q → q < n → key d[p]! < key d[q]!) : PermIn 0 n d (stab lt n d) ∧ SortedIn lt2 0 n (stab lt n d) := by
  have h0 : Runs lt2 key n (fun c => c % 20 = 0 ∨ 0 < c) d := fun p q hpq hq => ⟨fun hc => absurd (hc q (.inr (by omega)) hpq (Nat.le_refl _)) (by simp), fun c _ _ _ => hk p q hpq hq⟩
  obtain ⟨q1, q2⟩ := insB_holds hS hA n n 0 d hn rfl (Nat.zero_le _) (by omega) h0
  obtain ⟨q3, q4⟩ := mrgA_holds hS hA n n 20 (insB lt n n 0 d) (by omega) (by omega) (by rw [q1.1]; exact hn) (q2.congr fun c _ _ => by omega)
  exact ⟨permIn_trans _ _ _ _ _ q1 q3, q4⟩
end
end Go.Proofs.Ytcjeegomonegpaa.PLivePlays
namespace Go.Proofs.Ytcjeegomonegpaa.PLivePlays
open Go.RowKit Go.Lib Go.Sort Go.Proofs.YtcjeegomonegpaaW.PrintWords
set_option linter.unusedVariables false
set_option linter.unusedSimpArgs false
section
variable {α : Type} [Inhabited α]
theorem insB_end (lt : α → α → Bool) (n f a : Nat) (d : Array α) (h : ¬ a + 20 ≤ n) : insB lt n f a d = insertionSort lt d a n := by
  cases f with
  | zero => rfl
  | succ f => rw [insB, if_neg h]
theorem mrgP_end (lt : α → α → Bool) (n s f a : Nat) (d : Array α) (h : ¬ a + 2 * s ≤ n) (hf : n ≤ a + f) : mrgP lt n s f a d = if a + s < n then symM lt (n - a) d a (a + s) n else d := by
  cases f with
  | zero => rw [mrgP, if_neg (by omega)]
  | succ f => rw [mrgP, if_neg h]
theorem mrgA_end (lt : α → α → Bool) (n s f : Nat) (d : Array α) (h : ¬ s < n) : mrgA lt n f s d = d := by
  cases f with
  | zero => rfl
  | succ f => rw [mrgA, if_neg h]
theorem size_insInner (lt : α → α → Bool) (a : Nat) : ∀ j (d : Array α), (insInner lt a j d).size = d.size
  | 0, d => by rw [insInner]
  | j + 1, d => by
    rw [insInner]
    split
    · rw [size_insInner lt a j, size_swp]
    · rfl
theorem size_insOuter (lt : α → α → Bool) (a b : Nat) : ∀ n i (d : Array α), b - i = n → (insOuter lt a b i d).size = d.size
  | 0, i, d, h => by rw [insOuter, if_neg (by omega)]
  | n + 1, i, d, h => by rw [insOuter, if_pos (by omega), size_insOuter lt a b n (i + 1) _ (by omega), size_insInner]
theorem size_insertionSort (lt : α → α → Bool) (d : Array α) (a b : Nat) : (insertionSort lt d a b).size = d.size := size_insOuter lt a b _ _ d rfl
set_option maxHeartbeats 8000000 in
set_option maxRecDepth 1000000 in
theorem stab_w (enc : α → List Value) (cf : α → α → Int) (hO : SWO (ltOf cf)) (g : Nat) (cb : Array Value) (blk off cap : Nat) (d : Array α) (w : World)
    (eg : ∀ args w, (callFunc g args).run Try.prog w = .ok (.enter g args) w) (hcmp : CmpLays Try.prog g cb enc 3 cf blk off d.size w) (R : RowK enc 3 w blk off d) (hsz : d.size ≤ 1000000) :
    Calls Try.prog 60 #[.slice (some ⟨blk, off, none⟩) d.size cap, .int .i64 (d.size : Int), .func (.func g) #[] cb] w fun e w' => e = .returned (.tuple #[]) ∧ SWK enc 3 w blk off (stab (ltOf cf) d.size d) w' := by
  have e67 : ∀ args w, (callFunc 67 args).run Try.prog w = .ok (.enter 67 args) w := enters_of Try.func67 (by kernel_rfl) rfl
  have e78 : ∀ args w, (callFunc 78 args).run Try.prog w = .ok (.enter 78 args) w := enters_of Try.func78 (by kernel_rfl) rfl
  have HI : Aside0 (∀ (dk : Array α) (x y : Nat) (W : World), dk.size = d.size → x ≤ y → y ≤ d.size → SWK enc 3 w blk off dk W → Calls Try.prog 67 #[.slice (some ⟨blk, off, none⟩) d.size cap, .int .i64 x, .int .i64 y, .func (.func g) #[] cb] W fun e w' => e = .returned (.tuple #[]) ∧ SWK enc 3 w blk off (insertionSort (ltOf cf) dk x y) w') := ⟨fun dk x y W q1 q2 q3 q4 => by
    have h := AnyQ.insertionSortCmpFunc_w insertRow 3 Try.isAgg23 Try.sizeOf23 enc cf g cb blk off cap x y d dk w W eg hcmp R q1.symm q4 hO q2 (by omega) (by omega)
    rw [q1] at h
    exact h⟩
  have HM : Aside0 (∀ (f : Nat) (dk : Array α) (x y z : Nat) (W : World), dk.size = d.size → z - x ≤ f → x < y → y < z → z ≤ d.size → SWK enc 3 w blk off dk W → Calls Try.prog 78 #[.slice (some ⟨blk, off, none⟩) d.size cap, .int .i64 x, .int .i64 y, .int .i64 z, .func (.func g) #[] cb] W fun e w' => e = .returned (.tuple #[]) ∧ SWK enc 3 w blk off (symM (ltOf cf) f dk x y z) w') := ⟨fun f dk x y z W q1 q2 q3 q4 q5 q6 => by
    have h := symM_w stLays 3 Try.isAgg23 Try.sizeOf23 enc cf g cb blk off cap d w eg hcmp R (by omega) f dk x y z W q2 q3 q4 (by omega) q1 q6
    rw [q1] at h
    exact h⟩
  have S0 : Aside (SWK enc 3 w blk off d w) := SWK.start R.hH
  clear hcmp eg R
  obtain ⟨n, hn⟩ : ∃ n, n = d.size := ⟨_, rfl⟩
  rw [← hn] at HI HM hsz ⊢
  have HN := Aside0.mk hn
  clear hn
  go_enter Try.func60, Try.ntmps60
  go_wp2_with (fail)
  go_loopg [7, 8] n (fun kx s7 s8 wr => ∃ (i : Nat) (dk : Array α), s7 = .int .i64 (i : Int) ∧ s8 = .int .i64 ((i : Int) + 20) ∧ i ≤ n ∧ n ≤ i + 20 * kx ∧ Aside0 (dk.size = n) ∧ Aside (SWK enc 3 w blk off dk wr) ∧ Aside0 (insB (ltOf cf) n kx i dk = insB (ltOf cf) n n 0 d))
  case atStart => exact ⟨0, d, rfl, by go_num, Nat.zero_le _, by omega, ⟨HN.out.symm⟩, S0, ⟨rfl⟩⟩
  case round =>
    clear S0
    obtain ⟨i, dk, rfl, rfl, hin, hkx, HS, S1, HE⟩ := hrel
    by_cases hle : i + 20 ≤ n
    · as_aux_lemma =>
        have hlz : (i : Int) + 20 ≤ (n : Int) := by omega
        obtain ⟨gk', rfl⟩ : ∃ q, gk = q + 1 := ⟨gk - 1, by omega⟩
        have hc := HI.out dk i (i + 20) wr HS.out (by omega) hle S1
        rw [show ((i + 20 : Nat) : Int) = (i : Int) + 20 by omega] at hc
        go_wp2_with (go_at_fn 67; refine hc.mono ?_; rintro e w1 ⟨rfl, hS1⟩)
        go_roundg gk'
        case measure => omega
        case rel =>
          have h := HE.out
          rw [insB, if_pos hle] at h
          exact ⟨i + 20, _, by go_num, by go_num, hle, by omega, ⟨by rw [size_insertionSort]; exact HS.out⟩, hS1, ⟨h⟩⟩
    · have hlz : ¬ (i : Int) + 20 ≤ (n : Int) := by omega
      have hc := HI.out dk i n wr HS.out hin (Nat.le_refl _) S1
      have HE1 := HE.out
      rw [insB_end _ _ _ _ _ hle] at HE1
      rw [HE1] at hc
      have HS1 : Aside0 ((insB (ltOf cf) n n 0 d).size = n) := ⟨by rw [← HE1, size_insertionSort]; exact HS.out⟩
      clear HE HE1 HS S1
      have HG : Aside0 (stab (ltOf cf) n d = mrgA (ltOf cf) n n 20 (insB (ltOf cf) n n 0 d)) := ⟨rfl⟩
      generalize insB (ltOf cf) n n 0 d = d1 at hc HS1 HG
      go_wp2_with (go_at_fn 67; refine hc.mono ?_; rintro e w1 ⟨rfl, hS1⟩)
      have S2 : Aside (SWK enc 3 w blk off d1 w1) := hS1
      clear hS1 hc
      go_loopg [6] n (fun kx s6 wr => ∃ (s : Nat) (dk : Array α), s6 = .int .i64 (s : Int) ∧ 20 ≤ s ∧ s ≤ 2 * n + 20 ∧ n ≤ s + kx ∧ Aside0 (dk.size = n) ∧ Aside (SWK enc 3 w blk off dk wr) ∧ Aside0 (mrgA (ltOf cf) n kx s dk = mrgA (ltOf cf) n n 20 d1))
      case atStart => exact ⟨20, d1, by go_num, Nat.le_refl _, by omega, by omega, HS1, S2, ⟨rfl⟩⟩
      case round =>
        clear S2 HS1
        obtain ⟨s, dk, rfl, hs20, hsn, hkx, HS, S1, HE⟩ := hrel
        by_cases hlt : s < n
        · as_aux_lemma =>
            have hlz : (s : Int) < (n : Int) := by omega
            obtain ⟨gk', rfl⟩ : ∃ q, gk = q + 1 := ⟨gk - 1, by omega⟩
            have HE1 := Aside0.mk (show mrgA (ltOf cf) n gk' (2 * s) (mrgP (ltOf cf) n s n 0 dk) = mrgA (ltOf cf) n n 20 d1 by have h := HE.out; rw [mrgA, if_pos hlt] at h; exact h)
            clear HE
            have hwr : IntKind.i64.wrap (2 * (s : Int)) = 2 * (s : Int) := by rw [IntKind.wrap_i64]; omega
            have hwr2 : IntKind.i64.wrap ((s : Int) * 2) = (s : Int) * 2 := by rw [IntKind.wrap_i64]; omega
            go_wp2_with (fail)
            go_loopg [7, 8] n (fun kx s7 s8 wr => ∃ (a : Nat) (dj : Array α), s7 = .int .i64 (a : Int) ∧ s8 = .int .i64 ((a : Int) + 2 * (s : Int)) ∧ a ≤ n ∧ n ≤ a + kx ∧ Aside0 (dj.size = n) ∧ Aside (SWK enc 3 w blk off dj wr) ∧ Aside0 (mrgP (ltOf cf) n s kx a dj = mrgP (ltOf cf) n s n 0 dk))
            case atStart => exact ⟨0, dk, rfl, by go_num, Nat.zero_le _, by omega, HS, S1, ⟨rfl⟩⟩
            case round =>
              clear S1 HS
              obtain ⟨a, dj, rfl, rfl, han, hkj, HS, S1, HP⟩ := hrel
              have hwa : IntKind.i64.wrap ((a : Int) + (s : Int)) = (a : Int) + (s : Int) := by rw [IntKind.wrap_i64]; omega
              by_cases hle2 : a + 2 * s ≤ n
              · as_aux_lemma =>
                  have hlz2 : (a : Int) + 2 * (s : Int) ≤ (n : Int) := by omega
                  have hwb : IntKind.i64.wrap ((a : Int) + 2 * (s : Int) + 2 * (s : Int)) = (a : Int) + 2 * (s : Int) + 2 * (s : Int) := by rw [IntKind.wrap_i64]; omega
                  obtain ⟨gj', rfl⟩ : ∃ q, gk = q + 1 := ⟨gk - 1, by omega⟩
                  have hc := HM.out (2 * s) dj a (a + s) (a + 2 * s) wr HS.out (by omega) (by omega) (by omega) hle2 S1
                  rw [show ((a + s : Nat) : Int) = (a : Int) + (s : Int) by omega, show ((a + 2 * s : Nat) : Int) = (a : Int) + 2 * (s : Int) by omega] at hc
                  go_wp2_with (go_at_fn 78; refine hc.mono ?_; rintro e w1 ⟨rfl, hS1⟩)
                  go_roundg gj'
                  case measure => omega
                  case rel =>
                    have h := HP.out
                    rw [mrgP, if_pos hle2] at h
                    exact ⟨a + 2 * s, _, by go_num, by go_num, hle2, by omega, ⟨by rw [size_symM]; exact HS.out⟩, hS1, ⟨h⟩⟩
              · have hlz2 : ¬ (a : Int) + 2 * (s : Int) ≤ (n : Int) := by omega
                have h := HP.out
                rw [mrgP_end _ _ _ _ _ _ hle2 hkj] at h
                by_cases hlt2 : a + s < n
                · as_aux_lemma =>
                    have hlz3 : (a : Int) + (s : Int) < (n : Int) := by omega
                    have hc := HM.out (n - a) dj a (a + s) n wr HS.out (Nat.le_refl _) (by omega) hlt2 (Nat.le_refl _) S1
                    rw [show ((a + s : Nat) : Int) = (a : Int) + (s : Int) by omega] at hc
                    rw [if_pos hlt2] at h
                    have HH := Aside0.mk h
                    clear h HP
                    go_wp2_with (go_at_fn 78; refine hc.mono ?_; rintro e w1 ⟨rfl, hS1⟩)
                    go_roundg gk'
                    case measure => omega
                    case rel =>
                      have h1 := HE1.out
                      rw [← HH.out] at h1
                      exact ⟨2 * s, _, by go_num, by omega, by omega, by omega, ⟨by rw [size_symM]; exact HS.out⟩, hS1, ⟨h1⟩⟩
                · as_aux_lemma =>
                    have hlz3 : ¬ (a : Int) + (s : Int) < (n : Int) := by omega
                    rw [if_neg hlt2] at h
                    have HH := Aside0.mk h
                    clear h HP
                    go_wp2_with (fail)
                    go_roundg gk'
                    case measure => omega
                    case rel =>
                      have h1 := HE1.out
                      rw [← HH.out] at h1
                      exact ⟨2 * s, _, by go_num, by omega, by omega, by omega, ⟨HS.out⟩, S1, ⟨h1⟩⟩
        · as_aux_lemma =>
            have hlz : ¬ (s : Int) < (n : Int) := by omega
            have h := HE.out
            rw [mrgA_end _ _ _ _ _ hlt] at h
            subst h
            go_wp2_with (fail)
            go_end0
            rw [HG.out]
            exact ⟨rfl, S1⟩
end
end Go.Proofs.Ytcjeegomonegpaa.PLivePlays
namespace Go.Proofs.Ytcjeegomonegpaa.PLivePlays
open Go.RowKit Go.Maps Go.Sort Go.Proofs.YtcjeegomonegpaaW.PrintWords Go.Proofs.YtcjeegomonegpaaW.PrintLast Go.Proofs.YtcjeegomonegpaaW.PrintMore
set_option linter.unusedVariables false
set_option linter.unusedSimpArgs false
def Full (x : S23) : Prop := MayR x ∧ 0 < x.f1
instance (x : S23) : Decidable (Full x) := by unfold Full; infer_instance
theorem quo_nought (T : Nat) (h0 : 0 < T) (h1 : T ≤ 65536) : floatBits .quo .f64 (floatOfInt .f64 0) (floatOfInt .f64 (T : Int)) = some 0 := by
  obtain ⟨b1, b2, b3, b4, b5⟩ := Fl.mI_bounds T h0 h1
  show ((Ieee.double.read (floatOfInt .f64 0)).quotient (52 + 2) (Ieee.double.read (floatOfInt .f64 (T : Int)))).map Ieee.double.write = _
  rw [Fl.read_int T h0 h1, show floatOfInt .f64 0 = 0 by decide, Fl.zero_read]
  unfold Ieee.Datum.quotient
  simp only []
  rw [if_neg (by omega)]
  simp [Ieee.Format.write, Ieee.Format.nearest, Ieee.Format.word]
theorem quo_some (L T : Nat) (hL : 0 < L) (hLT : L ≤ T) (hT : T ≤ 65536) : ∃ r, floatBits .quo .f64 (floatOfInt .f64 (L : Int)) (floatOfInt .f64 (T : Int)) = some r ∧ ordF r r = some .eq ∧ ordF r 0 = some .gt ∧ ordF 0 r = some .lt := by
  obtain ⟨m1, p1, hq1, a1, a2, a3, a4, a5, a6⟩ := Fl.div_nearh L T hL hLT hT
  have l1 : 54 ≤ m1.log2 := Fl.le_log2 (by omega) (by rw [show (2 : Nat) ^ 54 = 4 * 4503599627370496 by decide]; exact a1)
  have l2 : m1.log2 ≤ 55 := Fl.log2_le (by omega) (by rw [show (2 : Nat) ^ (55 + 1) = 16 * 4503599627370496 by decide]; exact a2)
  obtain ⟨k1, e1, hr1, hk, x1, x2, v1, v2⟩ := Fl.nearest_nearh m1 p1 (by omega) (by omega) (by omega) (by omega) (by omega)
  refine ⟨_, hq1, ?_, ?_, ?_⟩
  · show (Ieee.double.read _).order (Ieee.double.read _) = _
    rw [hr1]
    exact Fl.order_self _ _
  · show (Ieee.double.read _).order (Ieee.double.read 0) = _
    rw [hr1, Fl.zero_read]
    exact Fl.order_gt _ _ _ (by omega)
  · show (Ieee.double.read 0).order (Ieee.double.read _) = _
    rw [hr1, Fl.zero_read]
    exact Fl.order_zero _ _ _ (by omega)
theorem full_nat {x : S23} (h : Full x) : ∃ L T : Nat, x.f2 = (L : Int) ∧ x.f1 = (T : Int) ∧ L ≤ T ∧ 0 < T ∧ T ≤ 65536 := by
  obtain ⟨⟨-, -, m1, m2, m3, m4⟩, h0⟩ := h
  exact ⟨x.f2.toNat, x.f1.toNat, by omega, by omega, by omega, by omega, by omega⟩
theorem partB_quo {x : S23} {L T : Nat} (hL : x.f2 = (L : Int)) (hT : x.f1 = (T : Int)) (h0 : 0 < T) {r : Nat} (hr : floatBits .quo .f64 (floatOfInt .f64 (L : Int)) (floatOfInt .f64 (T : Int)) = some r) : partB x = r := by
  unfold partB
  rw [if_neg (by omega), hL, hT, hr]
  rfl
theorem full_ok (x : S23) (h : Full x) : PartOk x := by
  obtain ⟨L, T, e1, e2, h1, h2, h3⟩ := full_nat h
  refine .inr ?_
  rw [e1, e2]
  by_cases h0 : L = 0
  · subst h0
    exact ⟨0, quo_nought T h2 h3⟩
  · obtain ⟨r, hr, -⟩ := quo_some L T (by omega) h1 h3
    exact ⟨r, hr⟩
theorem full_self {x : S23} (h : Full x) : ordF (partB x) (partB x) = some .eq := by
  obtain ⟨L, T, e1, e2, h1, h2, h3⟩ := full_nat h
  by_cases h0 : L = 0
  · subst h0
    rw [partB_quo e1 e2 h2 (quo_nought T h2 h3)]
    decide
  · obtain ⟨r, hr, hs, -⟩ := quo_some L T (by omega) h1 h3
    rw [partB_quo e1 e2 h2 hr]
    exact hs
theorem ord_part {x y : S23} (hx : Full x) (hy : Full y) : ordF (partB x) (partB y) = some (if x.f2 * y.f1 < y.f2 * x.f1 then .lt else if x.f2 * y.f1 = y.f2 * x.f1 then .eq else .gt) := by
  obtain ⟨L1, T1, a1, a2, a3, a4, a5⟩ := full_nat hx
  obtain ⟨L2, T2, b1, b2, b3, b4, b5⟩ := full_nat hy
  rw [a1, a2, b1, b2]
  by_cases h1 : L1 = 0
  · subst h1
    rw [partB_quo a1 a2 a4 (quo_nought T1 a4 a5)]
    by_cases h2 : L2 = 0
    · subst h2
      rw [partB_quo b1 b2 b4 (quo_nought T2 b4 b5), if_neg (by simp), if_pos (by simp)]
      decide
    · obtain ⟨r, hr, -, -, hs⟩ := quo_some L2 T2 (by omega) b3 b5
      rw [partB_quo b1 b2 b4 hr, hs, if_pos]
      have : 0 < L2 * T1 := Nat.mul_pos (by omega) a4
      simp
      exact_mod_cast this
  · by_cases h2 : L2 = 0
    · subst h2
      obtain ⟨r, hr, -, hs, -⟩ := quo_some L1 T1 (by omega) a3 a5
      have : 0 < L1 * T2 := Nat.mul_pos (by omega) b4
      have h3 : (0 : Int) < (L1 : Int) * (T2 : Int) := by exact_mod_cast this
      rw [partB_quo b1 b2 b4 (quo_nought T2 b4 b5), partB_quo a1 a2 a4 hr, hs, if_neg (by simp; omega), if_neg (by simp; omega)]
    · rcases Nat.lt_trichotomy (L1 * T2) (L2 * T1) with h | h | h
      · obtain ⟨r1, r2, q1, q2, q3, q4⟩ := Fl.quo_lt L1 T1 L2 T2 (by omega) a3 a5 (by omega) b3 b5 h
        rw [partB_quo a1 a2 a4 q1, partB_quo b1 b2 b4 q2, if_pos (by exact_mod_cast h)]
        exact q3
      · obtain ⟨r, hr, hs, -⟩ := quo_some L1 T1 (by omega) a3 a5
        have hr2 := hr
        rw [Fl.quo_same L1 T1 L2 T2 (by omega) a3 a5 (by omega) b3 b5 h] at hr2
        have h' : (L1 : Int) * T2 = L2 * T1 := by exact_mod_cast h
        rw [partB_quo a1 a2 a4 hr, partB_quo b1 b2 b4 hr2, hs, if_neg (by omega), if_pos h']
      · obtain ⟨r1, r2, q1, q2, q3, q4⟩ := Fl.quo_lt L2 T2 L1 T1 (by omega) b3 b5 (by omega) a3 a5 h
        have h' : (L2 : Int) * T1 < L1 * T2 := by exact_mod_cast h
        rw [partB_quo a1 a2 a4 q2, partB_quo b1 b2 b4 q1, if_neg (by omega), if_neg (by omega)]
        exact q4
theorem cmp_part {x y : S23} (hx : Full x) (hy : Full y) : cmpP x y = if x.f2 * y.f1 < y.f2 * x.f1 then -1 else if x.f2 * y.f1 = y.f2 * x.f1 then 0 else 1 := by
  unfold cmpP cmpF nanF
  rw [full_self hx, full_self hy, ord_part hx hy]
  by_cases h1 : x.f2 * y.f1 < y.f2 * x.f1
  · simp [h1]
  · by_cases h2 : x.f2 * y.f1 = y.f2 * x.f1
    · simp [h2]
    · simp [h1, h2]
def ltP (x y : S23) : Prop := x.f2 * y.f1 < y.f2 * x.f1
instance (x y : S23) : Decidable (ltP x y) := by unfold ltP; infer_instance
theorem cmp_lt {x y : S23} (hx : Full x) (hy : Full y) : decide (cmpP x y < 0) = decide (ltP x y) := by
  rw [cmp_part hx hy]
  unfold ltP
  by_cases h1 : x.f2 * y.f1 < y.f2 * x.f1
  · simp [h1]
  · by_cases h2 : x.f2 * y.f1 = y.f2 * x.f1
    · simp [h2]
    · simp [h1, h2]
theorem ltP_trans {x y z : S23} (hx : 0 < x.f1) (hy : 0 < y.f1) (hz : 0 < z.f1) (h1 : ltP x y) (h2 : ltP y z) : ltP x z := by
  unfold ltP at *
  have a1 := Int.mul_lt_mul_of_pos_right h1 hz
  have a2 := Int.mul_lt_mul_of_pos_right h2 hx
  have e1 : y.f2 * x.f1 * z.f1 = y.f2 * z.f1 * x.f1 := by ac_rfl
  have e2 : x.f2 * y.f1 * z.f1 = x.f2 * z.f1 * y.f1 := by ac_rfl
  have e3 : z.f2 * y.f1 * x.f1 = z.f2 * x.f1 * y.f1 := by ac_rfl
  refine Int.lt_of_mul_lt_mul_right (a := y.f1) ?_ (by omega)
  omega
theorem ltP_ntrans {x y z : S23} (hx : 0 < x.f1) (hy : 0 < y.f1) (hz : 0 < z.f1) (h1 : ¬ ltP x y) (h2 : ¬ ltP y z) : ¬ ltP x z := by
  unfold ltP at *
  have a1 := Int.mul_le_mul_of_nonneg_right (Int.not_lt.1 h1) (show 0 ≤ z.f1 by omega)
  have a2 := Int.mul_le_mul_of_nonneg_right (Int.not_lt.1 h2) (show 0 ≤ x.f1 by omega)
  have e1 : y.f2 * x.f1 * z.f1 = y.f2 * z.f1 * x.f1 := by ac_rfl
  have e2 : x.f2 * y.f1 * z.f1 = x.f2 * z.f1 * y.f1 := by ac_rfl
  have e3 : z.f2 * y.f1 * x.f1 = z.f2 * x.f1 * y.f1 := by ac_rfl
  refine Int.not_lt.2 (Int.le_of_mul_le_mul_right (a := y.f1) ?_ hy)
  omega
abbrev zF : S23 := ⟨1, 1, 0⟩
theorem zF_full : Full zF := by decide
theorem ltQ (x y : S23) : ltOf (cmpQ Full zF) x y = decide (ltP (fixR Full zF x) (fixR Full zF y)) := by
  unfold ltOf cmpQ
  exact cmp_lt (fixR_ok zF_full x) (fixR_ok zF_full y)
theorem swoQ : SWO (ltOf (cmpQ Full zF)) where
  irrefl x := by rw [ltQ]; simp [ltP]
  trans x y z h1 h2 := by
    rw [ltQ] at *
    simp only [decide_eq_true_eq] at *
    exact ltP_trans (fixR_ok zF_full x).2 (fixR_ok zF_full y).2 (fixR_ok zF_full z).2 h1 h2
  ntrans x y z h1 h2 := by
    rw [ltQ] at *
    simp only [decide_eq_false_iff_not] at *
    exact ltP_ntrans (fixR_ok zF_full x).2 (fixR_ok zF_full y).2 (fixR_ok zF_full z).2 h1 h2
def lt2 (x y : S23) : Bool := ltOf (cmpQ Full zF) x y || (!ltOf (cmpQ Full zF) y x && decide (x.f0 < y.f0))
theorem swo2 : SWO lt2 where
  irrefl x := by
    unfold lt2
    rw [swoQ.irrefl]
    simp
  trans x y z h1 h2 := by
    unfold lt2 at *
    have T1 := swoQ.trans x y z
    have T2 := swoQ.ntrans z y x
    have T3 := swoQ.ntrans x z y
    have T4 := swoQ.ntrans y x z
    simp only [Bool.or_eq_true, Bool.and_eq_true, Bool.not_eq_true', decide_eq_true_eq] at *
    rcases h1 with h1 | ⟨h1, h1'⟩ <;> rcases h2 with h2 | ⟨h2, h2'⟩
    · exact .inl (T1 h1 h2)
    · refine .inl ?_
      cases h : ltOf (cmpQ Full zF) x z with
      | true => rfl
      | false => rw [T3 h h2] at h1; cases h1
    · refine .inl ?_
      cases h : ltOf (cmpQ Full zF) x z with
      | true => rfl
      | false => rw [T4 h1 h] at h2; cases h2
    · exact .inr ⟨T2 h2 h1, by omega⟩
  ntrans x y z h1 h2 := by
    unfold lt2 at *
    have T1 := swoQ.trans z y x
    have T2 := swoQ.ntrans x y z
    have T5 := swoQ.ntrans z x y
    have T6 := swoQ.ntrans y z x
    simp only [Bool.or_eq_false_iff, Bool.and_eq_false_iff, Bool.not_eq_false', decide_eq_false_iff_not] at *
    obtain ⟨h1, h1'⟩ := h1
    obtain ⟨h2, h2'⟩ := h2
    refine ⟨T2 h1 h2, ?_⟩
    rcases h1' with h1' | h1' <;> rcases h2' with h2' | h2'
    · exact .inl (T1 h2' h1')
    · refine .inl ?_
      cases h : ltOf (cmpQ Full zF) z x with
      | true => rfl
      | false => rw [T6 h2 h] at h1'; cases h1'
    · refine .inl ?_
      cases h : ltOf (cmpQ Full zF) z x with
      | true => rfl
      | false => rw [T5 h h1] at h2'; cases h2'
    · exact .inr (by omega)
theorem agree2 : Agree (ltOf (cmpQ Full zF)) lt2 (fun x => x.f0) := fun x y h => by
  unfold lt2
  rw [decide_eq_false (show ¬ x.f0 < y.f0 by simp only at h; omega)]
  simp
end Go.Proofs.Ytcjeegomonegpaa.PLivePlays
namespace Go.Proofs.Ytcjeegomonegpaa.PLivePlays
open Go.RowKit Go.Proofs.YtcjeegomonegpaaW.PrintWords Go.Proofs.YtcjeegomonegpaaW.PrintLast Go.Proofs.YtcjeegomonegpaaW.PrintMore
attribute [local go_sem] max2_int min2_int max_two min_two max_three min_three max_four min_four   -- for this text's walks alone
set_option linter.unusedVariables false
set_option linter.unusedSimpArgs false
theorem eqA25 (d : Nat) (w : World) (x0 y0 : Int) (x1 y1 : Int) (x2 y2 : Int) :
    (Op.equalIn (d + 2) 25 (.agg #[.int .i64 x0, .int .i64 x1, .int .i64 x2]) (.agg #[.int .i64 y0, .int .i64 y1, .int .i64 y2])).run Try.prog w = .ok (x0 == y0 && (x1 == y1 && (x2 == y2))) w := by
  refine eqA_of Try.underlying25 (by kernel_rfl) ?_
  refine eqf_cons (by rfl) (by go_simp; rfl) (by go_simp; rfl) (by go_simp) ?_
  refine eqf_cons (by rfl) (by go_simp; rfl) (by go_simp; rfl) (by go_simp) ?_
  exact eqf_last (by rfl) (by go_simp; rfl) (by go_simp; rfl) (by go_simp)
end Go.Proofs.Ytcjeegomonegpaa.PLivePlays
namespace Go.Proofs.Ytcjeegomonegpaa.PLivePlays
open Go.RowKit Go.Proofs.YtcjeegomonegpaaW.PrintWords Go.Proofs.YtcjeegomonegpaaW.PrintLast Go.Proofs.YtcjeegomonegpaaW.PrintMore
attribute [local go_sem] max2_int min2_int max_two min_two max_three min_three max_four min_four   -- for this text's walks alone
set_option linter.unusedVariables false
set_option linter.unusedSimpArgs false
attribute [local go_sem high] eqA25
def lighterlaw08_Same.l0 : Nat → List (S25) → List (S25) → Int → Option (Bool)
  | 0, _, _, _ => none
  | k + 1, x1, x5, x6 => if x6 < (x5.length : Int) then (if 0 ≤ x6 then (if x6 < (x1.length : Int) then (if (!(((rd_T25 x5 x6).f0) == ((rd_T25 x1 x6).f0)) || (!(((rd_T25 x5 x6).f1) == ((rd_T25 x1 x6).f1)) || (!(((rd_T25 x5 x6).f2) == ((rd_T25 x1 x6).f2))))) = true then (some false) else (lighterlaw08_Same.l0 k x1 x5 (wrap64 (x6 + 1)))) else (none)) else (none)) else (some true)
def lighterlaw08_Same.f (k : Nat) (l0 : List (S23)) (l1 : List (S25)) : Option (Bool) := (lighterlaw08_Plain.f k l0).bind fun t114 => (if (t114.length : Int) = (l1.length : Int) then (lighterlaw08_Same.l0 k l1 t114 0) else (some false))
set_option maxHeartbeats 8000000 in
set_option maxRecDepth 100000 in
theorem lighterlaw08_Same.calls (k : Nat) (A0 : Option Addr) (c0 : Nat) (l0 : List (S23)) (A1 : Option Addr) (c1 : Nat) (l1 : List (S25)) (r : Bool) (w : World) (hr0 : Kd.C k23 w A0 l0.length l0) (hc0 : l0.length ≤ c0) (hr1 : Kd.C k25 w A1 l1.length l1) (hc1 : l1.length ≤ c1) (h : lighterlaw08_Same.f k l0 l1 = some r) :
    Calls Try.prog 17 #[.slice A0 l0.length c0, .slice A1 l1.length c1] w fun e w' => e = .returned (.bool r) ∧ Below w.heap.size w w' := by
  have hu25 := Try.underlying25
  have HR0 := Aside0.mk hr0
  have HC0 := Aside0.mk hc0
  clear hr0 hc0
  have HR1 := Aside0.mk hr1
  have HC1 := Aside0.mk hc1
  clear hr1 hc1
  have HB := Aside0.mk (Below.refl w.heap.size w)
  have H : ((lighterlaw08_Plain.f k l0).bind fun t114 => (if (t114.length : Int) = (l1.length : Int) then (lighterlaw08_Same.l0 k l1 t114 0) else (some false))) = some r := h
  clear h
  replace H := Option.bind_eq_some_iff.mp H
  obtain ⟨t114, A30, H⟩ := H
  replace H : (if (t114.length : Int) = (l1.length : Int) then (lighterlaw08_Same.l0 k l1 t114 0) else (some false)) = some r := H
  have A3 := Aside0.mk A30
  clear A30
  by_cases c4 : (t114.length : Int) = (l1.length : Int)
  · rw [if_pos c4] at H
    have c4b0 : ((t114.length : Int) == (l1.length : Int)) = true := beq_iff_eq.mpr c4
    have c4b1 : ((t114.length : Int) != (l1.length : Int)) = false := bne_eq_false_iff_eq.mpr c4
    have c4b2 : (t114.length == l1.length) = true := by first | simpa using c4 | (simp at c4 ⊢; omega)
    clear c4
    have H' := Aside0.mk H
    clear H
    go_enter Try.func17, Try.ntmps17
    go_wp2_with (first | (go_at_call 12; (with_reducible refine (lighterlaw08_Plain.calls k _ _ l0 t114 _ ?side1 ?side2 A3.out).mono ?_); (case side1 => repeat (first | exact HR0.out | (with_reducible refine Kd.C_alloc ?_ _) | (with_reducible refine Kd.C_drewN ?_ _) | (with_reducible refine Kd.C_drew ?_))); (case side2 => exact HC0.out); rintro e w5 ⟨v115, rfl, ho0, hb⟩; have n0_ := Aside0.mk (Kd.R_lower ho0 (below_size (by repeat (first | (with_reducible first | exact HB.out | apply below_alloc | apply pw_below_drewN | apply below_drew1) | exact HB.out)))); have n1_ := Aside0.mk (below_step (by repeat (first | (with_reducible first | exact HB.out | apply below_alloc | apply pw_below_drewN | apply below_drew1) | exact HB.out)) hb); clear HB; have HO116 := n0_; have HB := n1_; clear n0_ n1_; (try clear hb); (try clear hb2); (try clear hk); (try clear hi); (try clear ho0); obtain ⟨Ao6, co6, eo6⟩ := Kd.R_slice HO116.out; subst eo6))
    repeat (go_quiet (first | (go_at_call 12; (with_reducible refine (lighterlaw08_Plain.calls k _ _ l0 t114 _ ?side1 ?side2 A3.out).mono ?_); (case side1 => repeat (first | exact HR0.out | (with_reducible refine Kd.C_alloc ?_ _) | (with_reducible refine Kd.C_drewN ?_ _) | (with_reducible refine Kd.C_drew ?_))); (case side2 => exact HC0.out); rintro e w5 ⟨v115, rfl, ho0, hb⟩; have n0_ := Aside0.mk (Kd.R_lower ho0 (below_size (by repeat (first | (with_reducible first | exact HB.out | apply below_alloc | apply pw_below_drewN | apply below_drew1) | exact HB.out)))); have n1_ := Aside0.mk (below_step (by repeat (first | (with_reducible first | exact HB.out | apply below_alloc | apply pw_below_drewN | apply below_drew1) | exact HB.out)) hb); clear HB; have HO116 := n0_; have HB := n1_; clear n0_ n1_; (try clear hb); (try clear hb2); (try clear hk); (try clear hi); (try clear ho0); obtain ⟨Ao6, co6, eo6⟩ := Kd.R_slice HO116.out; subst eo6)); try go_wp2_with (first | (go_at_call 12; (with_reducible refine (lighterlaw08_Plain.calls k _ _ l0 t114 _ ?side1 ?side2 A3.out).mono ?_); (case side1 => repeat (first | exact HR0.out | (with_reducible refine Kd.C_alloc ?_ _) | (with_reducible refine Kd.C_drewN ?_ _) | (with_reducible refine Kd.C_drew ?_))); (case side2 => exact HC0.out); rintro e w5 ⟨v115, rfl, ho0, hb⟩; have n0_ := Aside0.mk (Kd.R_lower ho0 (below_size (by repeat (first | (with_reducible first | exact HB.out | apply below_alloc | apply pw_below_drewN | apply below_drew1) | exact HB.out)))); have n1_ := Aside0.mk (below_step (by repeat (first | (with_reducible first | exact HB.out | apply below_alloc | apply pw_below_drewN | apply below_drew1) | exact HB.out)) hb); clear HB; have HO116 := n0_; have HB := n1_; clear n0_ n1_; (try clear hb); (try clear hb2); (try clear hk); (try clear hi); (try clear ho0); obtain ⟨Ao6, co6, eo6⟩ := Kd.R_slice HO116.out; subst eo6)))
    go_loopg [6] k (fun kq v6 w' => ∃ (x6_1 : Int), v6 = .int .i64 x6_1 ∧ Aside0 (lighterlaw08_Same.l0 kq l1 t114 x6_1 = some r) ∧ Aside0 (kq ≤ k) ∧ Aside0 (Kd.R k25 25 w' w.heap.size (fun _ => True) (.slice Ao6 t114.length co6) t114) ∧ Aside0 (Below w.heap.size w w'))
    case atStart => exact ⟨(0), (by first | rfl | (simp; done) | (simp [*]; done)), H', ⟨Nat.le_refl _⟩, ⟨by (with_reducible repeat (first | apply Kd.R_alloc | apply Kd.R_drewN | apply Kd.R_drew)); exact HO116.out⟩, ⟨by repeat (first | (with_reducible first | exact HB.out | apply below_alloc | apply pw_below_drewN | apply below_drew1) | exact HB.out)⟩⟩
    case round =>
      clear H'
      try clear c1
      try clear p2
      try clear c4
      try clear c4b0
      try clear c4b1
      try clear c4b2
      obtain ⟨x6_1, rfl, HA, HK1, HO_5, HB⟩ := hrel
      cases gk with
      | zero => exact absurd HA.out (by simp [lighterlaw08_Same.l0])
      | succ k1 =>
        have H := HA.out
        clear HA
        simp only [lighterlaw08_Same.l0] at H
        by_cases c7 : x6_1 < (t114.length : Int)
        · rw [if_pos c7] at H
          have c7b0 : decide (x6_1 < (t114.length : Int)) = true := decide_eq_true c7
          clear c7
          by_cases c8 : 0 ≤ x6_1
          · rw [if_pos c8] at H
            have c8b0 : decide (0 ≤ x6_1) = true := decide_eq_true c8
            clear c8
            by_cases c9 : x6_1 < (l1.length : Int)
            · rw [if_pos c9] at H
              have c9b0 : decide (x6_1 < (l1.length : Int)) = true := decide_eq_true c9
              clear c9
              by_cases c10 : (!(((rd_T25 t114 x6_1).f0) == ((rd_T25 l1 x6_1).f0)) || (!(((rd_T25 t114 x6_1).f1) == ((rd_T25 l1 x6_1).f1)) || (!(((rd_T25 t114 x6_1).f2) == ((rd_T25 l1 x6_1).f2))))) = true
              · rw [if_pos c10] at H
                have c10b0 : (!(((rd_T25 t114 x6_1).f0) == ((rd_T25 l1 x6_1).f0)) || (!(((rd_T25 t114 x6_1).f1) == ((rd_T25 l1 x6_1).f1)) || (!(((rd_T25 t114 x6_1).f2) == ((rd_T25 l1 x6_1).f2))))) = true := c10
                clear c10
                obtain rfl := Option.some.inj H
                have p117 : 0 ≤ (x6_1 : Int) := of_decide_eq_true (by first | (with_reducible assumption) | assumption)
                have q117 : x6_1 < (t114.length : Int) := of_decide_eq_true (by first | (with_reducible assumption) | assumption)
                obtain ⟨ad117, e117, hx117_0, hx117_1, hx117_2⟩ := at_T25 (Kd.R_reads' HO_5.out).2.2 x6_1 p117 q117
                cases e117
                replace p117 := eq_true p117
                replace q117 := eq_true q117
                have p118 : 0 ≤ (x6_1 : Int) := of_decide_eq_true (by first | (with_reducible assumption) | assumption)
                have q118 : x6_1 < (l1.length : Int) := of_decide_eq_true (by first | (with_reducible assumption) | assumption)
                obtain ⟨ad118, e118, hx118_0, hx118_1, hx118_2⟩ := at_T25 HR1.out x6_1 p118 q118
                cases e118
                replace hx118_0 := (HB.out.cell (World.block_lt_of_cell? w _ hx118_0)).trans hx118_0
                replace hx118_1 := (HB.out.cell (World.block_lt_of_cell? w _ hx118_1)).trans hx118_1
                replace hx118_2 := (HB.out.cell (World.block_lt_of_cell? w _ hx118_2)).trans hx118_2
                replace p118 := eq_true p118
                replace q118 := eq_true q118
                go_wp2
                repeat (go_quiet (fail); try go_wp2)
                go_ret
                exact ⟨by first | rfl | (simp [errW_none, errW_some] <;> rfl) | (simp [*, errW_none, errW_some] <;> rfl), by repeat (first | (with_reducible first | exact HB.out | apply below_alloc | apply pw_below_drewN | apply below_drew1) | exact HB.out)⟩
              · rw [if_neg c10] at H
                have c10b0 : (!(((rd_T25 t114 x6_1).f0) == ((rd_T25 l1 x6_1).f0)) || (!(((rd_T25 t114 x6_1).f1) == ((rd_T25 l1 x6_1).f1)) || (!(((rd_T25 t114 x6_1).f2) == ((rd_T25 l1 x6_1).f2))))) = false := by simpa using c10
                clear c10
                have H' := Aside0.mk H
                clear H
                have p117 : 0 ≤ (x6_1 : Int) := of_decide_eq_true (by first | (with_reducible assumption) | assumption)
                have q117 : x6_1 < (t114.length : Int) := of_decide_eq_true (by first | (with_reducible assumption) | assumption)
                obtain ⟨ad117, e117, hx117_0, hx117_1, hx117_2⟩ := at_T25 (Kd.R_reads' HO_5.out).2.2 x6_1 p117 q117
                cases e117
                replace p117 := eq_true p117
                replace q117 := eq_true q117
                have p118 : 0 ≤ (x6_1 : Int) := of_decide_eq_true (by first | (with_reducible assumption) | assumption)
                have q118 : x6_1 < (l1.length : Int) := of_decide_eq_true (by first | (with_reducible assumption) | assumption)
                obtain ⟨ad118, e118, hx118_0, hx118_1, hx118_2⟩ := at_T25 HR1.out x6_1 p118 q118
                cases e118
                replace hx118_0 := (HB.out.cell (World.block_lt_of_cell? w _ hx118_0)).trans hx118_0
                replace hx118_1 := (HB.out.cell (World.block_lt_of_cell? w _ hx118_1)).trans hx118_1
                replace hx118_2 := (HB.out.cell (World.block_lt_of_cell? w _ hx118_2)).trans hx118_2
                replace p118 := eq_true p118
                replace q118 := eq_true q118
                go_wp2
                repeat (go_quiet (fail); try go_wp2)
                go_roundg k1
                case measure => have := HK1.out; omega
                case rel => exact ⟨(wrap64 (x6_1 + 1)), (by first | rfl | (simp; done) | (simp [*]; done)), H', ⟨by have := HK1.out; omega⟩, ⟨by (with_reducible repeat (first | apply Kd.R_alloc | apply Kd.R_drewN | apply Kd.R_drew)); exact HO_5.out⟩, ⟨by repeat (first | (with_reducible first | exact HB.out | apply below_alloc | apply pw_below_drewN | apply below_drew1) | exact HB.out)⟩⟩
            · rw [if_neg c9] at H
              exact absurd H (by simp)
          · rw [if_neg c8] at H
            exact absurd H (by simp)
        · rw [if_neg c7] at H
          have c7b0 : decide (x6_1 < (t114.length : Int)) = false := decide_eq_false c7
          clear c7
          obtain rfl := Option.some.inj H
          go_wp2
          repeat (go_quiet (fail); try go_wp2)
          go_ret
          exact ⟨by first | rfl | (simp [errW_none, errW_some] <;> rfl) | (simp [*, errW_none, errW_some] <;> rfl), by repeat (first | (with_reducible first | exact HB.out | apply below_alloc | apply pw_below_drewN | apply below_drew1) | exact HB.out)⟩
  · rw [if_neg c4] at H
    have c4b0 : ((t114.length : Int) == (l1.length : Int)) = false := beq_eq_false_iff_ne.mpr c4
    have c4b1 : ((t114.length : Int) != (l1.length : Int)) = true := bne_iff_ne.mpr c4
    have c4b2 : (t114.length == l1.length) = false := by first | simpa using c4 | (simp at c4 ⊢; omega)
    obtain rfl := Option.some.inj H
    go_enter Try.func17, Try.ntmps17
    go_wp2_with (first | (go_at_call 12; (with_reducible refine (lighterlaw08_Plain.calls k _ _ l0 t114 _ ?side1 ?side2 A3.out).mono ?_); (case side1 => repeat (first | exact HR0.out | (with_reducible refine Kd.C_alloc ?_ _) | (with_reducible refine Kd.C_drewN ?_ _) | (with_reducible refine Kd.C_drew ?_))); (case side2 => exact HC0.out); rintro e w11 ⟨v115, rfl, ho0, hb⟩; have n0_ := Aside0.mk (Kd.R_lower ho0 (below_size (by repeat (first | (with_reducible first | exact HB.out | apply below_alloc | apply pw_below_drewN | apply below_drew1) | exact HB.out)))); have n1_ := Aside0.mk (below_step (by repeat (first | (with_reducible first | exact HB.out | apply below_alloc | apply pw_below_drewN | apply below_drew1) | exact HB.out)) hb); clear HB; have HO116 := n0_; have HB := n1_; clear n0_ n1_; (try clear hb); (try clear hb2); (try clear hk); (try clear hi); (try clear ho0); obtain ⟨Ao12, co12, eo12⟩ := Kd.R_slice HO116.out; subst eo12))
    repeat (go_quiet (first | (go_at_call 12; (with_reducible refine (lighterlaw08_Plain.calls k _ _ l0 t114 _ ?side1 ?side2 A3.out).mono ?_); (case side1 => repeat (first | exact HR0.out | (with_reducible refine Kd.C_alloc ?_ _) | (with_reducible refine Kd.C_drewN ?_ _) | (with_reducible refine Kd.C_drew ?_))); (case side2 => exact HC0.out); rintro e w11 ⟨v115, rfl, ho0, hb⟩; have n0_ := Aside0.mk (Kd.R_lower ho0 (below_size (by repeat (first | (with_reducible first | exact HB.out | apply below_alloc | apply pw_below_drewN | apply below_drew1) | exact HB.out)))); have n1_ := Aside0.mk (below_step (by repeat (first | (with_reducible first | exact HB.out | apply below_alloc | apply pw_below_drewN | apply below_drew1) | exact HB.out)) hb); clear HB; have HO116 := n0_; have HB := n1_; clear n0_ n1_; (try clear hb); (try clear hb2); (try clear hk); (try clear hi); (try clear ho0); obtain ⟨Ao12, co12, eo12⟩ := Kd.R_slice HO116.out; subst eo12)); try go_wp2_with (first | (go_at_call 12; (with_reducible refine (lighterlaw08_Plain.calls k _ _ l0 t114 _ ?side1 ?side2 A3.out).mono ?_); (case side1 => repeat (first | exact HR0.out | (with_reducible refine Kd.C_alloc ?_ _) | (with_reducible refine Kd.C_drewN ?_ _) | (with_reducible refine Kd.C_drew ?_))); (case side2 => exact HC0.out); rintro e w11 ⟨v115, rfl, ho0, hb⟩; have n0_ := Aside0.mk (Kd.R_lower ho0 (below_size (by repeat (first | (with_reducible first | exact HB.out | apply below_alloc | apply pw_below_drewN | apply below_drew1) | exact HB.out)))); have n1_ := Aside0.mk (below_step (by repeat (first | (with_reducible first | exact HB.out | apply below_alloc | apply pw_below_drewN | apply below_drew1) | exact HB.out)) hb); clear HB; have HO116 := n0_; have HB := n1_; clear n0_ n1_; (try clear hb); (try clear hb2); (try clear hk); (try clear hi); (try clear ho0); obtain ⟨Ao12, co12, eo12⟩ := Kd.R_slice HO116.out; subst eo12)))
    go_ret
    exact ⟨by first | rfl | (simp [errW_none, errW_some] <;> rfl) | (simp [*, errW_none, errW_some] <;> rfl), by repeat (first | (with_reducible first | exact HB.out | apply below_alloc | apply pw_below_drewN | apply below_drew1) | exact HB.out)⟩
def lighterlaw08_Few.l0 : Nat → List (S46) → Int → Option (Bool)
  | 0, _, _ => none
  | k + 1, x0, x3 => if x3 < (x0.length : Int) then (if 0 ≤ x3 then (if (((rd_T46 x0 x3).f2).length : Int) > 20 then (some false) else (if (((rd_T46 x0 x3).f3).length : Int) > 20 then (some false) else (if (((rd_T46 x0 x3).f4).length : Int) > 20 then (some false) else (lighterlaw08_Few.l0 k x0 (wrap64 (x3 + 1)))))) else (none)) else (some (decide ((x0.length : Int) ≤ 40)))
def lighterlaw08_Few.f (k : Nat) (l0 : List (S46)) : Option (Bool) := lighterlaw08_Few.l0 k l0 0
set_option maxHeartbeats 8000000 in
set_option maxRecDepth 100000 in
theorem lighterlaw08_Few.calls (k : Nat) (A0 : Option Addr) (c0 : Nat) (l0 : List (S46)) (r : Bool) (w : World) (hr0 : Kd.C k46 w A0 l0.length l0) (hc0 : l0.length ≤ c0) (h : lighterlaw08_Few.f k l0 = some r) :
    Calls Try.prog 20 #[.slice A0 l0.length c0] w fun e w' => e = .returned (.bool r) ∧ Drawn0 w w' := by
  have HR0 := Aside0.mk hr0
  have HC0 := Aside0.mk hc0
  clear hr0 hc0
  have H : (lighterlaw08_Few.l0 k l0 0) = some r := h
  clear h
  have H' := Aside0.mk H
  clear H
  go_enter Try.func20, Try.ntmps20
  go_wp2
  go_loopg [3] k (fun kq v3 w' => ∃ (x3_1 : Int), v3 = .int .i64 x3_1 ∧ Aside0 (lighterlaw08_Few.l0 kq l0 x3_1 = some r) ∧ Aside0 (kq ≤ k) ∧ Drawn0 w w')
  case atStart => exact ⟨(0), (by first | rfl | (simp; done) | (simp [*]; done)), H', ⟨Nat.le_refl _⟩, by repeat (first | exact Drawn0.refl _ | apply Drawn0.step)⟩
  case round =>
    clear H'
    obtain ⟨x3_1, rfl, HA, HK1, ⟨m1, rfl⟩⟩ := hrel
    cases gk with
    | zero => exact absurd HA.out (by simp [lighterlaw08_Few.l0])
    | succ k1 =>
      have H := HA.out
      clear HA
      simp only [lighterlaw08_Few.l0] at H
      by_cases c2 : x3_1 < (l0.length : Int)
      · rw [if_pos c2] at H
        have c2b0 : decide (x3_1 < (l0.length : Int)) = true := decide_eq_true c2
        clear c2
        by_cases c3 : 0 ≤ x3_1
        · rw [if_pos c3] at H
          have c3b0 : decide (0 ≤ x3_1) = true := decide_eq_true c3
          clear c3
          by_cases c4 : (((rd_T46 l0 x3_1).f2).length : Int) > 20
          · rw [if_pos c4] at H
            have c4b0 : decide (20 < (((rd_T46 l0 x3_1).f2).length : Int)) = true := decide_eq_true c4
            have c4b1 : decide (20 < ((rd_T46 l0 x3_1).f2).length) = true := decide_eq_true (by omega)
            clear c4
            obtain rfl := Option.some.inj H
            have p119 : 0 ≤ (x3_1 : Int) := of_decide_eq_true (by first | (with_reducible assumption) | assumption)
            have q119 : x3_1 < (l0.length : Int) := of_decide_eq_true (by first | (with_reducible assumption) | assumption)
            obtain ⟨ad119, A119_2, c119_2, A119_3, c119_3, A119_4, c119_4, e119, hx119_0, hx119_1, hx119_2, hx119_3, hx119_4, hl119_2, hi119_2, hl119_3, hi119_3, hl119_4, hi119_4⟩ := at_T46 HR0.out x3_1 p119 q119
            cases e119
            have HR119_2 := Aside0.mk hi119_2
            have HC119_2 := Aside0.mk hl119_2
            clear hi119_2 hl119_2
            have HR119_3 := Aside0.mk hi119_3
            have HC119_3 := Aside0.mk hl119_3
            clear hi119_3 hl119_3
            have HR119_4 := Aside0.mk hi119_4
            have HC119_4 := Aside0.mk hl119_4
            clear hi119_4 hl119_4
            replace p119 := eq_true p119
            replace q119 := eq_true q119
            go_wp2
            go_ret
            exact ⟨by first | rfl | (simp; done) | (simp [*]; done), by repeat (first | exact Drawn0.refl _ | apply Drawn0.step)⟩
          · rw [if_neg c4] at H
            have c4b0 : decide (20 < (((rd_T46 l0 x3_1).f2).length : Int)) = false := decide_eq_false c4
            have c4b1 : decide (20 < ((rd_T46 l0 x3_1).f2).length) = false := decide_eq_false (by omega)
            clear c4
            by_cases c5 : (((rd_T46 l0 x3_1).f3).length : Int) > 20
            · rw [if_pos c5] at H
              have c5b0 : decide (20 < (((rd_T46 l0 x3_1).f3).length : Int)) = true := decide_eq_true c5
              have c5b1 : decide (20 < ((rd_T46 l0 x3_1).f3).length) = true := decide_eq_true (by omega)
              clear c5
              obtain rfl := Option.some.inj H
              have p119 : 0 ≤ (x3_1 : Int) := of_decide_eq_true (by first | (with_reducible assumption) | assumption)
              have q119 : x3_1 < (l0.length : Int) := of_decide_eq_true (by first | (with_reducible assumption) | assumption)
              obtain ⟨ad119, A119_2, c119_2, A119_3, c119_3, A119_4, c119_4, e119, hx119_0, hx119_1, hx119_2, hx119_3, hx119_4, hl119_2, hi119_2, hl119_3, hi119_3, hl119_4, hi119_4⟩ := at_T46 HR0.out x3_1 p119 q119
              cases e119
              have HR119_2 := Aside0.mk hi119_2
              have HC119_2 := Aside0.mk hl119_2
              clear hi119_2 hl119_2
              have HR119_3 := Aside0.mk hi119_3
              have HC119_3 := Aside0.mk hl119_3
              clear hi119_3 hl119_3
              have HR119_4 := Aside0.mk hi119_4
              have HC119_4 := Aside0.mk hl119_4
              clear hi119_4 hl119_4
              replace p119 := eq_true p119
              replace q119 := eq_true q119
              have p120 : 0 ≤ (x3_1 : Int) := of_decide_eq_true (by first | (with_reducible assumption) | assumption)
              have q120 : x3_1 < (l0.length : Int) := of_decide_eq_true (by first | (with_reducible assumption) | assumption)
              obtain ⟨ad120, A120_2, c120_2, A120_3, c120_3, A120_4, c120_4, e120, hx120_0, hx120_1, hx120_2, hx120_3, hx120_4, hl120_2, hi120_2, hl120_3, hi120_3, hl120_4, hi120_4⟩ := at_T46 HR0.out x3_1 p120 q120
              obtain rfl : ad119 = ad120 := (by injection e120)
              have HR120_2 := Aside0.mk hi120_2
              have HC120_2 := Aside0.mk hl120_2
              clear hi120_2 hl120_2
              have HR120_3 := Aside0.mk hi120_3
              have HC120_3 := Aside0.mk hl120_3
              clear hi120_3 hl120_3
              have HR120_4 := Aside0.mk hi120_4
              have HC120_4 := Aside0.mk hl120_4
              clear hi120_4 hl120_4
              replace p120 := eq_true p120
              replace q120 := eq_true q120
              have ea_ := Option.some.inj (hx119_2.symm.trans hx120_2)
              injection ea_ with ea_ en_ ec_
              subst ea_
              subst ec_
              clear en_
              have ea_ := Option.some.inj (hx119_3.symm.trans hx120_3)
              injection ea_ with ea_ en_ ec_
              subst ea_
              subst ec_
              clear en_
              have ea_ := Option.some.inj (hx119_4.symm.trans hx120_4)
              injection ea_ with ea_ en_ ec_
              subst ea_
              subst ec_
              clear en_
              go_wp2
              go_ret
              exact ⟨by first | rfl | (simp; done) | (simp [*]; done), by repeat (first | exact Drawn0.refl _ | apply Drawn0.step)⟩
            · rw [if_neg c5] at H
              have c5b0 : decide (20 < (((rd_T46 l0 x3_1).f3).length : Int)) = false := decide_eq_false c5
              have c5b1 : decide (20 < ((rd_T46 l0 x3_1).f3).length) = false := decide_eq_false (by omega)
              clear c5
              by_cases c6 : (((rd_T46 l0 x3_1).f4).length : Int) > 20
              · rw [if_pos c6] at H
                have c6b0 : decide (20 < (((rd_T46 l0 x3_1).f4).length : Int)) = true := decide_eq_true c6
                have c6b1 : decide (20 < ((rd_T46 l0 x3_1).f4).length) = true := decide_eq_true (by omega)
                clear c6
                obtain rfl := Option.some.inj H
                have p119 : 0 ≤ (x3_1 : Int) := of_decide_eq_true (by first | (with_reducible assumption) | assumption)
                have q119 : x3_1 < (l0.length : Int) := of_decide_eq_true (by first | (with_reducible assumption) | assumption)
                obtain ⟨ad119, A119_2, c119_2, A119_3, c119_3, A119_4, c119_4, e119, hx119_0, hx119_1, hx119_2, hx119_3, hx119_4, hl119_2, hi119_2, hl119_3, hi119_3, hl119_4, hi119_4⟩ := at_T46 HR0.out x3_1 p119 q119
                cases e119
                have HR119_2 := Aside0.mk hi119_2
                have HC119_2 := Aside0.mk hl119_2
                clear hi119_2 hl119_2
                have HR119_3 := Aside0.mk hi119_3
                have HC119_3 := Aside0.mk hl119_3
                clear hi119_3 hl119_3
                have HR119_4 := Aside0.mk hi119_4
                have HC119_4 := Aside0.mk hl119_4
                clear hi119_4 hl119_4
                replace p119 := eq_true p119
                replace q119 := eq_true q119
                have p120 : 0 ≤ (x3_1 : Int) := of_decide_eq_true (by first | (with_reducible assumption) | assumption)
                have q120 : x3_1 < (l0.length : Int) := of_decide_eq_true (by first | (with_reducible assumption) | assumption)
                obtain ⟨ad120, A120_2, c120_2, A120_3, c120_3, A120_4, c120_4, e120, hx120_0, hx120_1, hx120_2, hx120_3, hx120_4, hl120_2, hi120_2, hl120_3, hi120_3, hl120_4, hi120_4⟩ := at_T46 HR0.out x3_1 p120 q120
                obtain rfl : ad119 = ad120 := (by injection e120)
                have HR120_2 := Aside0.mk hi120_2
                have HC120_2 := Aside0.mk hl120_2
                clear hi120_2 hl120_2
                have HR120_3 := Aside0.mk hi120_3
                have HC120_3 := Aside0.mk hl120_3
                clear hi120_3 hl120_3
                have HR120_4 := Aside0.mk hi120_4
                have HC120_4 := Aside0.mk hl120_4
                clear hi120_4 hl120_4
                replace p120 := eq_true p120
                replace q120 := eq_true q120
                have ea_ := Option.some.inj (hx119_2.symm.trans hx120_2)
                injection ea_ with ea_ en_ ec_
                subst ea_
                subst ec_
                clear en_
                have ea_ := Option.some.inj (hx119_3.symm.trans hx120_3)
                injection ea_ with ea_ en_ ec_
                subst ea_
                subst ec_
                clear en_
                have ea_ := Option.some.inj (hx119_4.symm.trans hx120_4)
                injection ea_ with ea_ en_ ec_
                subst ea_
                subst ec_
                clear en_
                have p121 : 0 ≤ (x3_1 : Int) := of_decide_eq_true (by first | (with_reducible assumption) | assumption)
                have q121 : x3_1 < (l0.length : Int) := of_decide_eq_true (by first | (with_reducible assumption) | assumption)
                obtain ⟨ad121, A121_2, c121_2, A121_3, c121_3, A121_4, c121_4, e121, hx121_0, hx121_1, hx121_2, hx121_3, hx121_4, hl121_2, hi121_2, hl121_3, hi121_3, hl121_4, hi121_4⟩ := at_T46 HR0.out x3_1 p121 q121
                obtain rfl : ad119 = ad121 := (by injection e121)
                have HR121_2 := Aside0.mk hi121_2
                have HC121_2 := Aside0.mk hl121_2
                clear hi121_2 hl121_2
                have HR121_3 := Aside0.mk hi121_3
                have HC121_3 := Aside0.mk hl121_3
                clear hi121_3 hl121_3
                have HR121_4 := Aside0.mk hi121_4
                have HC121_4 := Aside0.mk hl121_4
                clear hi121_4 hl121_4
                replace p121 := eq_true p121
                replace q121 := eq_true q121
                have ea_ := Option.some.inj (hx119_2.symm.trans hx121_2)
                injection ea_ with ea_ en_ ec_
                subst ea_
                subst ec_
                clear en_
                have ea_ := Option.some.inj (hx119_3.symm.trans hx121_3)
                injection ea_ with ea_ en_ ec_
                subst ea_
                subst ec_
                clear en_
                have ea_ := Option.some.inj (hx119_4.symm.trans hx121_4)
                injection ea_ with ea_ en_ ec_
                subst ea_
                subst ec_
                clear en_
                go_wp2
                go_ret
                exact ⟨by first | rfl | (simp; done) | (simp [*]; done), by repeat (first | exact Drawn0.refl _ | apply Drawn0.step)⟩
              · rw [if_neg c6] at H
                have c6b0 : decide (20 < (((rd_T46 l0 x3_1).f4).length : Int)) = false := decide_eq_false c6
                have c6b1 : decide (20 < ((rd_T46 l0 x3_1).f4).length) = false := decide_eq_false (by omega)
                clear c6
                have H' := Aside0.mk H
                clear H
                have p119 : 0 ≤ (x3_1 : Int) := of_decide_eq_true (by first | (with_reducible assumption) | assumption)
                have q119 : x3_1 < (l0.length : Int) := of_decide_eq_true (by first | (with_reducible assumption) | assumption)
                obtain ⟨ad119, A119_2, c119_2, A119_3, c119_3, A119_4, c119_4, e119, hx119_0, hx119_1, hx119_2, hx119_3, hx119_4, hl119_2, hi119_2, hl119_3, hi119_3, hl119_4, hi119_4⟩ := at_T46 HR0.out x3_1 p119 q119
                cases e119
                have HR119_2 := Aside0.mk hi119_2
                have HC119_2 := Aside0.mk hl119_2
                clear hi119_2 hl119_2
                have HR119_3 := Aside0.mk hi119_3
                have HC119_3 := Aside0.mk hl119_3
                clear hi119_3 hl119_3
                have HR119_4 := Aside0.mk hi119_4
                have HC119_4 := Aside0.mk hl119_4
                clear hi119_4 hl119_4
                replace p119 := eq_true p119
                replace q119 := eq_true q119
                have p120 : 0 ≤ (x3_1 : Int) := of_decide_eq_true (by first | (with_reducible assumption) | assumption)
                have q120 : x3_1 < (l0.length : Int) := of_decide_eq_true (by first | (with_reducible assumption) | assumption)
                obtain ⟨ad120, A120_2, c120_2, A120_3, c120_3, A120_4, c120_4, e120, hx120_0, hx120_1, hx120_2, hx120_3, hx120_4, hl120_2, hi120_2, hl120_3, hi120_3, hl120_4, hi120_4⟩ := at_T46 HR0.out x3_1 p120 q120
                obtain rfl : ad119 = ad120 := (by injection e120)
                have HR120_2 := Aside0.mk hi120_2
                have HC120_2 := Aside0.mk hl120_2
                clear hi120_2 hl120_2
                have HR120_3 := Aside0.mk hi120_3
                have HC120_3 := Aside0.mk hl120_3
                clear hi120_3 hl120_3
                have HR120_4 := Aside0.mk hi120_4
                have HC120_4 := Aside0.mk hl120_4
                clear hi120_4 hl120_4
                replace p120 := eq_true p120
                replace q120 := eq_true q120
                have ea_ := Option.some.inj (hx119_2.symm.trans hx120_2)
                injection ea_ with ea_ en_ ec_
                subst ea_
                subst ec_
                clear en_
                have ea_ := Option.some.inj (hx119_3.symm.trans hx120_3)
                injection ea_ with ea_ en_ ec_
                subst ea_
                subst ec_
                clear en_
                have ea_ := Option.some.inj (hx119_4.symm.trans hx120_4)
                injection ea_ with ea_ en_ ec_
                subst ea_
                subst ec_
                clear en_
                have p121 : 0 ≤ (x3_1 : Int) := of_decide_eq_true (by first | (with_reducible assumption) | assumption)
                have q121 : x3_1 < (l0.length : Int) := of_decide_eq_true (by first | (with_reducible assumption) | assumption)
                obtain ⟨ad121, A121_2, c121_2, A121_3, c121_3, A121_4, c121_4, e121, hx121_0, hx121_1, hx121_2, hx121_3, hx121_4, hl121_2, hi121_2, hl121_3, hi121_3, hl121_4, hi121_4⟩ := at_T46 HR0.out x3_1 p121 q121
                obtain rfl : ad119 = ad121 := (by injection e121)
                have HR121_2 := Aside0.mk hi121_2
                have HC121_2 := Aside0.mk hl121_2
                clear hi121_2 hl121_2
                have HR121_3 := Aside0.mk hi121_3
                have HC121_3 := Aside0.mk hl121_3
                clear hi121_3 hl121_3
                have HR121_4 := Aside0.mk hi121_4
                have HC121_4 := Aside0.mk hl121_4
                clear hi121_4 hl121_4
                replace p121 := eq_true p121
                replace q121 := eq_true q121
                have ea_ := Option.some.inj (hx119_2.symm.trans hx121_2)
                injection ea_ with ea_ en_ ec_
                subst ea_
                subst ec_
                clear en_
                have ea_ := Option.some.inj (hx119_3.symm.trans hx121_3)
                injection ea_ with ea_ en_ ec_
                subst ea_
                subst ec_
                clear en_
                have ea_ := Option.some.inj (hx119_4.symm.trans hx121_4)
                injection ea_ with ea_ en_ ec_
                subst ea_
                subst ec_
                clear en_
                go_wp2
                go_roundg k1
                case measure => have := HK1.out; omega
                case rel => exact ⟨(wrap64 (x3_1 + 1)), (by first | rfl | (simp; done) | (simp [*]; done)), H', ⟨by have := HK1.out; omega⟩, by repeat (first | exact Drawn0.refl _ | apply Drawn0.step)⟩
        · rw [if_neg c3] at H
          exact absurd H (by simp)
      · rw [if_neg c2] at H
        have c2b0 : decide (x3_1 < (l0.length : Int)) = false := decide_eq_false c2
        clear c2
        obtain rfl := Option.some.inj H
        go_wp2
        go_ret
        exact ⟨by first | rfl | (simp; done) | (simp [*]; done), by repeat (first | exact Drawn0.refl _ | apply Drawn0.step)⟩
def lighterlaw08_ints.l0 : Nat → List Int → List Int → Int → Option (Bool)
  | 0, _, _, _ => none
  | k + 1, x0, x1, x5 => if x5 < (x0.length : Int) then (if 0 ≤ x5 then (if x5 < (x1.length : Int) then (if (rd x0 x5) = (rd x1 x5) then (lighterlaw08_ints.l0 k x0 x1 (wrap64 (x5 + 1))) else (some false)) else (none)) else (none)) else (some true)
def lighterlaw08_ints.f (k : Nat) (l0 : List Int) (l1 : List Int) : Option (Bool) := if (l0.length : Int) = (l1.length : Int) then (lighterlaw08_ints.l0 k l0 l1 0) else (some false)
set_option maxHeartbeats 8000000 in
set_option maxRecDepth 100000 in
theorem lighterlaw08_ints.calls (k : Nat) (A0 : Option Addr) (c0 : Nat) (l0 : List Int) (A1 : Option Addr) (c1 : Nat) (l1 : List Int) (r : Bool) (w : World) (hr0 : Kd.C (Kd.int .i64) w A0 l0.length l0) (hc0 : l0.length ≤ c0) (hr1 : Kd.C (Kd.int .i64) w A1 l1.length l1) (hc1 : l1.length ≤ c1) (h : lighterlaw08_ints.f k l0 l1 = some r) :
    Calls Try.prog 23 #[.slice A0 l0.length c0, .slice A1 l1.length c1] w fun e w' => e = .returned (.bool r) ∧ Drawn0 w w' := by
  have HR0 := Aside0.mk hr0
  have HC0 := Aside0.mk hc0
  clear hr0 hc0
  have HR1 := Aside0.mk hr1
  have HC1 := Aside0.mk hc1
  clear hr1 hc1
  have H : (if (l0.length : Int) = (l1.length : Int) then (lighterlaw08_ints.l0 k l0 l1 0) else (some false)) = some r := h
  clear h
  by_cases c3 : (l0.length : Int) = (l1.length : Int)
  · rw [if_pos c3] at H
    have c3b0 : ((l0.length : Int) == (l1.length : Int)) = true := beq_iff_eq.mpr c3
    have c3b1 : ((l0.length : Int) != (l1.length : Int)) = false := bne_eq_false_iff_eq.mpr c3
    have c3b2 : (l0.length == l1.length) = true := by first | simpa using c3 | (simp at c3 ⊢; omega)
    clear c3
    have H' := Aside0.mk H
    clear H
    go_enter Try.func23, Try.ntmps23
    go_wp2
    repeat (go_quiet (fail); try go_wp2)
    go_loopg [5] k (fun kq v5 w' => ∃ (x5_1 : Int), v5 = .int .i64 x5_1 ∧ Aside0 (lighterlaw08_ints.l0 kq l0 l1 x5_1 = some r) ∧ Aside0 (kq ≤ k) ∧ Drawn0 w w')
    case atStart => exact ⟨(0), (by first | rfl | (simp; done) | (simp [*]; done)), H', ⟨Nat.le_refl _⟩, by repeat (first | exact Drawn0.refl _ | apply Drawn0.step)⟩
    case round =>
      clear H'
      try clear c1
      try clear c2
      try clear p2
      try clear c3
      try clear c3b0
      try clear c3b1
      try clear c3b2
      obtain ⟨x5_1, rfl, HA, HK1, ⟨m1, rfl⟩⟩ := hrel
      cases gk with
      | zero => exact absurd HA.out (by simp [lighterlaw08_ints.l0])
      | succ k1 =>
        have H := HA.out
        clear HA
        simp only [lighterlaw08_ints.l0] at H
        by_cases c4 : x5_1 < (l0.length : Int)
        · rw [if_pos c4] at H
          have c4b0 : decide (x5_1 < (l0.length : Int)) = true := decide_eq_true c4
          clear c4
          by_cases c5 : 0 ≤ x5_1
          · rw [if_pos c5] at H
            have c5b0 : decide (0 ≤ x5_1) = true := decide_eq_true c5
            clear c5
            by_cases c6 : x5_1 < (l1.length : Int)
            · rw [if_pos c6] at H
              have c6b0 : decide (x5_1 < (l1.length : Int)) = true := decide_eq_true c6
              clear c6
              by_cases c7 : (rd l0 x5_1) = (rd l1 x5_1)
              · rw [if_pos c7] at H
                have c7b0 : ((rd l0 x5_1) == (rd l1 x5_1)) = true := beq_iff_eq.mpr c7
                have c7b1 : ((rd l0 x5_1) != (rd l1 x5_1)) = false := bne_eq_false_iff_eq.mpr c7
                clear c7
                have H' := Aside0.mk H
                clear H
                have p122 : 0 ≤ (x5_1 : Int) := of_decide_eq_true (by first | (with_reducible assumption) | assumption)
                have q122 : x5_1 < (l0.length : Int) := of_decide_eq_true (by first | (with_reducible assumption) | assumption)
                obtain ⟨ad122, e122, hx122_0⟩ := Kd.at_int HR0.out x5_1 p122 q122
                cases e122
                replace p122 := eq_true p122
                replace q122 := eq_true q122
                have p123 : 0 ≤ (x5_1 : Int) := of_decide_eq_true (by first | (with_reducible assumption) | assumption)
                have q123 : x5_1 < (l1.length : Int) := of_decide_eq_true (by first | (with_reducible assumption) | assumption)
                obtain ⟨ad123, e123, hx123_0⟩ := Kd.at_int HR1.out x5_1 p123 q123
                cases e123
                replace p123 := eq_true p123
                replace q123 := eq_true q123
                go_wp2
                repeat (go_quiet (fail); try go_wp2)
                go_roundg k1
                case measure => have := HK1.out; omega
                case rel => exact ⟨(wrap64 (x5_1 + 1)), (by first | rfl | (simp; done) | (simp [*]; done)), H', ⟨by have := HK1.out; omega⟩, by repeat (first | exact Drawn0.refl _ | apply Drawn0.step)⟩
              · rw [if_neg c7] at H
                have c7b0 : ((rd l0 x5_1) == (rd l1 x5_1)) = false := beq_eq_false_iff_ne.mpr c7
                have c7b1 : ((rd l0 x5_1) != (rd l1 x5_1)) = true := bne_iff_ne.mpr c7
                obtain rfl := Option.some.inj H
                have p122 : 0 ≤ (x5_1 : Int) := of_decide_eq_true (by first | (with_reducible assumption) | assumption)
                have q122 : x5_1 < (l0.length : Int) := of_decide_eq_true (by first | (with_reducible assumption) | assumption)
                obtain ⟨ad122, e122, hx122_0⟩ := Kd.at_int HR0.out x5_1 p122 q122
                cases e122
                replace p122 := eq_true p122
                replace q122 := eq_true q122
                have p123 : 0 ≤ (x5_1 : Int) := of_decide_eq_true (by first | (with_reducible assumption) | assumption)
                have q123 : x5_1 < (l1.length : Int) := of_decide_eq_true (by first | (with_reducible assumption) | assumption)
                obtain ⟨ad123, e123, hx123_0⟩ := Kd.at_int HR1.out x5_1 p123 q123
                cases e123
                replace p123 := eq_true p123
                replace q123 := eq_true q123
                go_wp2
                repeat (go_quiet (fail); try go_wp2)
                go_ret
                exact ⟨by first | rfl | (simp; done) | (simp [*]; done), by repeat (first | exact Drawn0.refl _ | apply Drawn0.step)⟩
            · rw [if_neg c6] at H
              exact absurd H (by simp)
          · rw [if_neg c5] at H
            exact absurd H (by simp)
        · rw [if_neg c4] at H
          have c4b0 : decide (x5_1 < (l0.length : Int)) = false := decide_eq_false c4
          clear c4
          obtain rfl := Option.some.inj H
          go_wp2
          repeat (go_quiet (fail); try go_wp2)
          go_ret
          exact ⟨by first | rfl | (simp; done) | (simp [*]; done), by repeat (first | exact Drawn0.refl _ | apply Drawn0.step)⟩
  · rw [if_neg c3] at H
    have c3b0 : ((l0.length : Int) == (l1.length : Int)) = false := beq_eq_false_iff_ne.mpr c3
    have c3b1 : ((l0.length : Int) != (l1.length : Int)) = true := bne_iff_ne.mpr c3
    have c3b2 : (l0.length == l1.length) = false := by first | simpa using c3 | (simp at c3 ⊢; omega)
    obtain rfl := Option.some.inj H
    go_enter Try.func23, Try.ntmps23
    go_wp2
    repeat (go_quiet (fail); try go_wp2)
    go_ret
    exact ⟨by first | rfl | (simp; done) | (simp [*]; done), by repeat (first | exact Drawn0.refl _ | apply Drawn0.step)⟩
def span_May.f (a0_0 : Int) (a0_1 : Int) : Option (Int) := if a0_0 < 0 then (some 1) else (if a0_0 > 65536 then (some 1) else (if a0_1 < 1 then (some 1) else (if a0_1 > (wrap64 (65536 - a0_0)) then (some 1) else (some 0))))
set_option maxHeartbeats 8000000 in
set_option maxRecDepth 100000 in
theorem span_May.calls (a0_0 : Int) (a0_1 : Int) (r : Int) (w : World) (h : span_May.f a0_0 a0_1 = some r) :
    Calls Try.prog 65 #[.agg #[.int .i64 a0_0, .int .i64 a0_1]] w fun e w' => e = .returned (.int .i64 r) ∧ Below w.heap.size w w' := by
  have hu64 := Try.underlying64
  have HB := Aside0.mk (Below.refl w.heap.size w)
  have H : (if a0_0 < 0 then (some 1) else (if a0_0 > 65536 then (some 1) else (if a0_1 < 1 then (some 1) else (if a0_1 > (wrap64 (65536 - a0_0)) then (some 1) else (some 0))))) = some r := h
  clear h
  by_cases c2 : a0_0 < 0
  · rw [if_pos c2] at H
    have c2b0 : decide (a0_0 < 0) = true := decide_eq_true c2
    clear c2
    obtain rfl := Option.some.inj H
    go_enter Try.func65, Try.ntmps65
    go_wp2_with (first | ((with_reducible refine gate_dst (N := 1) rfl ?_); refine box_event ?hg (N := 1) ?hd (cs := #[.int .i64 a0_0, .int .i64 a0_1]) (t := 64) ?hr ?_; (case hd => rfl); (case hg => rfl); (case hr => first | (go_simp; done) | (go_simp; rfl)); intro gb124 hg w3 hbox hb; have n0_ := Aside0.mk (below_step (by repeat (first | (with_reducible first | exact HB.out | apply below_alloc | apply pw_below_drewN | apply below_drew1) | exact HB.out)) hb); have n1_ := Aside0.mk (hbox); have n2_ := Aside0.mk ((by rw [hg]; exact (below_size (by repeat (first | (with_reducible first | exact HB.out | apply below_alloc | apply pw_below_drewN | apply below_drew1) | exact HB.out))) : w.heap.size ≤ gb124)); have n3_ := Aside0.mk ((by rw [hg]; exact (below_size (by repeat (first | (with_reducible first | exact HB.out | apply below_alloc | apply pw_below_drewN | apply below_drew1) | exact HB.out))) : w.heap.size ≤ gb124)); clear HB; have HB := n0_; have BK124 := n1_; have GW124 := n2_; have GE124 := n3_; clear n0_ n1_ n2_ n3_; clear hb hbox hg; have hcz4_0 : w3.cell? ⟨gb124, 0, none⟩ = some (.int .i64 a0_0) := (blk_cell BK124.out 0).trans rfl; have hcz4_1 : w3.cell? ⟨gb124, 1, none⟩ = some (.int .i64 a0_1) := (blk_cell BK124.out 1).trans rfl; have hfz4_0 := blk_frozen BK124.out 0; have hfz4_1 := blk_frozen BK124.out 1))
    go_ret
    exact ⟨by first | rfl | (simp [errW_none, errW_some] <;> rfl) | (simp [*, errW_none, errW_some] <;> rfl), by repeat (first | (with_reducible first | exact HB.out | apply below_alloc | apply pw_below_drewN | apply below_drew1 | refine below_set ?_ GE124.out) | exact HB.out)⟩
  · rw [if_neg c2] at H
    have c2b0 : decide (a0_0 < 0) = false := decide_eq_false c2
    clear c2
    by_cases c5 : a0_0 > 65536
    · rw [if_pos c5] at H
      have c5b0 : decide (65536 < a0_0) = true := decide_eq_true c5
      clear c5
      obtain rfl := Option.some.inj H
      go_enter Try.func65, Try.ntmps65
      go_wp2_with (first | ((with_reducible refine gate_dst (N := 1) rfl ?_); refine box_event ?hg (N := 1) ?hd (cs := #[.int .i64 a0_0, .int .i64 a0_1]) (t := 64) ?hr ?_; (case hd => rfl); (case hg => rfl); (case hr => first | (go_simp; done) | (go_simp; rfl)); intro gb124 hg w6 hbox hb; have n0_ := Aside0.mk (below_step (by repeat (first | (with_reducible first | exact HB.out | apply below_alloc | apply pw_below_drewN | apply below_drew1) | exact HB.out)) hb); have n1_ := Aside0.mk (hbox); have n2_ := Aside0.mk ((by rw [hg]; exact (below_size (by repeat (first | (with_reducible first | exact HB.out | apply below_alloc | apply pw_below_drewN | apply below_drew1) | exact HB.out))) : w.heap.size ≤ gb124)); have n3_ := Aside0.mk ((by rw [hg]; exact (below_size (by repeat (first | (with_reducible first | exact HB.out | apply below_alloc | apply pw_below_drewN | apply below_drew1) | exact HB.out))) : w.heap.size ≤ gb124)); clear HB; have HB := n0_; have BK124 := n1_; have GW124 := n2_; have GE124 := n3_; clear n0_ n1_ n2_ n3_; clear hb hbox hg; have hcz7_0 : w6.cell? ⟨gb124, 0, none⟩ = some (.int .i64 a0_0) := (blk_cell BK124.out 0).trans rfl; have hcz7_1 : w6.cell? ⟨gb124, 1, none⟩ = some (.int .i64 a0_1) := (blk_cell BK124.out 1).trans rfl; have hfz7_0 := blk_frozen BK124.out 0; have hfz7_1 := blk_frozen BK124.out 1))
      go_ret
      exact ⟨by first | rfl | (simp [errW_none, errW_some] <;> rfl) | (simp [*, errW_none, errW_some] <;> rfl), by repeat (first | (with_reducible first | exact HB.out | apply below_alloc | apply pw_below_drewN | apply below_drew1 | refine below_set ?_ GE124.out) | exact HB.out)⟩
    · rw [if_neg c5] at H
      have c5b0 : decide (65536 < a0_0) = false := decide_eq_false c5
      clear c5
      by_cases c8 : a0_1 < 1
      · rw [if_pos c8] at H
        have c8b0 : decide (a0_1 < 1) = true := decide_eq_true c8
        clear c8
        obtain rfl := Option.some.inj H
        go_enter Try.func65, Try.ntmps65
        go_wp2_with (first | ((with_reducible refine gate_dst (N := 1) rfl ?_); refine box_event ?hg (N := 1) ?hd (cs := #[.int .i64 a0_0, .int .i64 a0_1]) (t := 64) ?hr ?_; (case hd => rfl); (case hg => rfl); (case hr => first | (go_simp; done) | (go_simp; rfl)); intro gb124 hg w9 hbox hb; have n0_ := Aside0.mk (below_step (by repeat (first | (with_reducible first | exact HB.out | apply below_alloc | apply pw_below_drewN | apply below_drew1) | exact HB.out)) hb); have n1_ := Aside0.mk (hbox); have n2_ := Aside0.mk ((by rw [hg]; exact (below_size (by repeat (first | (with_reducible first | exact HB.out | apply below_alloc | apply pw_below_drewN | apply below_drew1) | exact HB.out))) : w.heap.size ≤ gb124)); have n3_ := Aside0.mk ((by rw [hg]; exact (below_size (by repeat (first | (with_reducible first | exact HB.out | apply below_alloc | apply pw_below_drewN | apply below_drew1) | exact HB.out))) : w.heap.size ≤ gb124)); clear HB; have HB := n0_; have BK124 := n1_; have GW124 := n2_; have GE124 := n3_; clear n0_ n1_ n2_ n3_; clear hb hbox hg; have hcz10_0 : w9.cell? ⟨gb124, 0, none⟩ = some (.int .i64 a0_0) := (blk_cell BK124.out 0).trans rfl; have hcz10_1 : w9.cell? ⟨gb124, 1, none⟩ = some (.int .i64 a0_1) := (blk_cell BK124.out 1).trans rfl; have hfz10_0 := blk_frozen BK124.out 0; have hfz10_1 := blk_frozen BK124.out 1))
        go_ret
        exact ⟨by first | rfl | (simp [errW_none, errW_some] <;> rfl) | (simp [*, errW_none, errW_some] <;> rfl), by repeat (first | (with_reducible first | exact HB.out | apply below_alloc | apply pw_below_drewN | apply below_drew1 | refine below_set ?_ GE124.out) | exact HB.out)⟩
      · rw [if_neg c8] at H
        have c8b0 : decide (a0_1 < 1) = false := decide_eq_false c8
        clear c8
        by_cases c11 : a0_1 > (wrap64 (65536 - a0_0))
        · rw [if_pos c11] at H
          have c11b0 : decide ((wrap64 (65536 - a0_0)) < a0_1) = true := decide_eq_true c11
          clear c11
          obtain rfl := Option.some.inj H
          go_enter Try.func65, Try.ntmps65
          go_wp2_with (first | ((with_reducible refine gate_dst (N := 1) rfl ?_); refine box_event ?hg (N := 1) ?hd (cs := #[.int .i64 a0_0, .int .i64 a0_1]) (t := 64) ?hr ?_; (case hd => rfl); (case hg => rfl); (case hr => first | (go_simp; done) | (go_simp; rfl)); intro gb124 hg w12 hbox hb; have n0_ := Aside0.mk (below_step (by repeat (first | (with_reducible first | exact HB.out | apply below_alloc | apply pw_below_drewN | apply below_drew1) | exact HB.out)) hb); have n1_ := Aside0.mk (hbox); have n2_ := Aside0.mk ((by rw [hg]; exact (below_size (by repeat (first | (with_reducible first | exact HB.out | apply below_alloc | apply pw_below_drewN | apply below_drew1) | exact HB.out))) : w.heap.size ≤ gb124)); have n3_ := Aside0.mk ((by rw [hg]; exact (below_size (by repeat (first | (with_reducible first | exact HB.out | apply below_alloc | apply pw_below_drewN | apply below_drew1) | exact HB.out))) : w.heap.size ≤ gb124)); clear HB; have HB := n0_; have BK124 := n1_; have GW124 := n2_; have GE124 := n3_; clear n0_ n1_ n2_ n3_; clear hb hbox hg; have hcz13_0 : w12.cell? ⟨gb124, 0, none⟩ = some (.int .i64 a0_0) := (blk_cell BK124.out 0).trans rfl; have hcz13_1 : w12.cell? ⟨gb124, 1, none⟩ = some (.int .i64 a0_1) := (blk_cell BK124.out 1).trans rfl; have hfz13_0 := blk_frozen BK124.out 0; have hfz13_1 := blk_frozen BK124.out 1))
          go_ret
          exact ⟨by first | rfl | (simp [errW_none, errW_some] <;> rfl) | (simp [*, errW_none, errW_some] <;> rfl), by repeat (first | (with_reducible first | exact HB.out | apply below_alloc | apply pw_below_drewN | apply below_drew1 | refine below_set ?_ GE124.out) | exact HB.out)⟩
        · rw [if_neg c11] at H
          have c11b0 : decide ((wrap64 (65536 - a0_0)) < a0_1) = false := decide_eq_false c11
          clear c11
          obtain rfl := Option.some.inj H
          go_enter Try.func65, Try.ntmps65
          go_wp2_with (first | ((with_reducible refine gate_dst (N := 1) rfl ?_); refine box_event ?hg (N := 1) ?hd (cs := #[.int .i64 a0_0, .int .i64 a0_1]) (t := 64) ?hr ?_; (case hd => rfl); (case hg => rfl); (case hr => first | (go_simp; done) | (go_simp; rfl)); intro gb124 hg w14 hbox hb; have n0_ := Aside0.mk (below_step (by repeat (first | (with_reducible first | exact HB.out | apply below_alloc | apply pw_below_drewN | apply below_drew1) | exact HB.out)) hb); have n1_ := Aside0.mk (hbox); have n2_ := Aside0.mk ((by rw [hg]; exact (below_size (by repeat (first | (with_reducible first | exact HB.out | apply below_alloc | apply pw_below_drewN | apply below_drew1) | exact HB.out))) : w.heap.size ≤ gb124)); have n3_ := Aside0.mk ((by rw [hg]; exact (below_size (by repeat (first | (with_reducible first | exact HB.out | apply below_alloc | apply pw_below_drewN | apply below_drew1) | exact HB.out))) : w.heap.size ≤ gb124)); clear HB; have HB := n0_; have BK124 := n1_; have GW124 := n2_; have GE124 := n3_; clear n0_ n1_ n2_ n3_; clear hb hbox hg; have hcz15_0 : w14.cell? ⟨gb124, 0, none⟩ = some (.int .i64 a0_0) := (blk_cell BK124.out 0).trans rfl; have hcz15_1 : w14.cell? ⟨gb124, 1, none⟩ = some (.int .i64 a0_1) := (blk_cell BK124.out 1).trans rfl; have hfz15_0 := blk_frozen BK124.out 0; have hfz15_1 := blk_frozen BK124.out 1))
          go_ret
          exact ⟨by first | rfl | (simp [errW_none, errW_some] <;> rfl) | (simp [*, errW_none, errW_some] <;> rfl), by repeat (first | (with_reducible first | exact HB.out | apply below_alloc | apply pw_below_drewN | apply below_drew1 | refine below_set ?_ GE124.out) | exact HB.out)⟩
def extmap_place.f (a0_0 : Int) (a0_1 : Int) : Option (Bool) := if a0_0 ≥ 0 then (if a0_0 < 1099511627776 then (if a0_1 ≥ 0 then (some (decide (a0_1 < 1099511627776))) else (some false)) else (some false)) else (some false)
set_option maxHeartbeats 8000000 in
set_option maxRecDepth 100000 in
theorem extmap_place.calls (a0_0 : Int) (a0_1 : Int) (r : Bool) (w : World) (h : extmap_place.f a0_0 a0_1 = some r) :
    Calls Try.prog 66 #[.agg #[.int .i64 a0_0, .int .i64 a0_1]] w fun e w' => e = .returned (.bool r) ∧ Below w.heap.size w w' := by
  have hu62 := Try.underlying62
  have HB := Aside0.mk (Below.refl w.heap.size w)
  have H : (if a0_0 ≥ 0 then (if a0_0 < 1099511627776 then (if a0_1 ≥ 0 then (some (decide (a0_1 < 1099511627776))) else (some false)) else (some false)) else (some false)) = some r := h
  clear h
  by_cases c2 : a0_0 ≥ 0
  · rw [if_pos c2] at H
    have c2b0 : decide (0 ≤ a0_0) = true := decide_eq_true c2
    clear c2
    by_cases c3 : a0_0 < 1099511627776
    · rw [if_pos c3] at H
      have c3b0 : decide (a0_0 < 1099511627776) = true := decide_eq_true c3
      clear c3
      by_cases c4 : a0_1 ≥ 0
      · rw [if_pos c4] at H
        have c4b0 : decide (0 ≤ a0_1) = true := decide_eq_true c4
        clear c4
        obtain rfl := Option.some.inj H
        go_enter Try.func66, Try.ntmps66
        go_wp2_with (first | ((with_reducible refine gate_dst (N := 1) rfl ?_); refine box_event ?hg (N := 1) ?hd (cs := #[.int .i64 a0_0, .int .i64 a0_1]) (t := 62) ?hr ?_; (case hd => rfl); (case hg => rfl); (case hr => first | (go_simp; done) | (go_simp; rfl)); intro gb125 hg w5 hbox hb; have n0_ := Aside0.mk (below_step (by repeat (first | (with_reducible first | exact HB.out | apply below_alloc | apply pw_below_drewN | apply below_drew1) | exact HB.out)) hb); have n1_ := Aside0.mk (hbox); have n2_ := Aside0.mk ((by rw [hg]; exact (below_size (by repeat (first | (with_reducible first | exact HB.out | apply below_alloc | apply pw_below_drewN | apply below_drew1) | exact HB.out))) : w.heap.size ≤ gb125)); have n3_ := Aside0.mk ((by rw [hg]; exact (below_size (by repeat (first | (with_reducible first | exact HB.out | apply below_alloc | apply pw_below_drewN | apply below_drew1) | exact HB.out))) : w.heap.size ≤ gb125)); clear HB; have HB := n0_; have BK125 := n1_; have GW125 := n2_; have GE125 := n3_; clear n0_ n1_ n2_ n3_; clear hb hbox hg; have hcz6_0 : w5.cell? ⟨gb125, 0, none⟩ = some (.int .i64 a0_0) := (blk_cell BK125.out 0).trans rfl; have hcz6_1 : w5.cell? ⟨gb125, 1, none⟩ = some (.int .i64 a0_1) := (blk_cell BK125.out 1).trans rfl; have hfz6_0 := blk_frozen BK125.out 0; have hfz6_1 := blk_frozen BK125.out 1))
        go_ret
        exact ⟨by first | rfl | (simp [errW_none, errW_some] <;> rfl) | (simp [*, errW_none, errW_some] <;> rfl), by repeat (first | (with_reducible first | exact HB.out | apply below_alloc | apply pw_below_drewN | apply below_drew1 | refine below_set ?_ GE125.out) | exact HB.out)⟩
      · rw [if_neg c4] at H
        have c4b0 : decide (0 ≤ a0_1) = false := decide_eq_false c4
        clear c4
        obtain rfl := Option.some.inj H
        go_enter Try.func66, Try.ntmps66
        go_wp2_with (first | ((with_reducible refine gate_dst (N := 1) rfl ?_); refine box_event ?hg (N := 1) ?hd (cs := #[.int .i64 a0_0, .int .i64 a0_1]) (t := 62) ?hr ?_; (case hd => rfl); (case hg => rfl); (case hr => first | (go_simp; done) | (go_simp; rfl)); intro gb125 hg w7 hbox hb; have n0_ := Aside0.mk (below_step (by repeat (first | (with_reducible first | exact HB.out | apply below_alloc | apply pw_below_drewN | apply below_drew1) | exact HB.out)) hb); have n1_ := Aside0.mk (hbox); have n2_ := Aside0.mk ((by rw [hg]; exact (below_size (by repeat (first | (with_reducible first | exact HB.out | apply below_alloc | apply pw_below_drewN | apply below_drew1) | exact HB.out))) : w.heap.size ≤ gb125)); have n3_ := Aside0.mk ((by rw [hg]; exact (below_size (by repeat (first | (with_reducible first | exact HB.out | apply below_alloc | apply pw_below_drewN | apply below_drew1) | exact HB.out))) : w.heap.size ≤ gb125)); clear HB; have HB := n0_; have BK125 := n1_; have GW125 := n2_; have GE125 := n3_; clear n0_ n1_ n2_ n3_; clear hb hbox hg; have hcz8_0 : w7.cell? ⟨gb125, 0, none⟩ = some (.int .i64 a0_0) := (blk_cell BK125.out 0).trans rfl; have hcz8_1 : w7.cell? ⟨gb125, 1, none⟩ = some (.int .i64 a0_1) := (blk_cell BK125.out 1).trans rfl; have hfz8_0 := blk_frozen BK125.out 0; have hfz8_1 := blk_frozen BK125.out 1))
        go_ret
        exact ⟨by first | rfl | (simp [errW_none, errW_some] <;> rfl) | (simp [*, errW_none, errW_some] <;> rfl), by repeat (first | (with_reducible first | exact HB.out | apply below_alloc | apply pw_below_drewN | apply below_drew1 | refine below_set ?_ GE125.out) | exact HB.out)⟩
    · rw [if_neg c3] at H
      have c3b0 : decide (a0_0 < 1099511627776) = false := decide_eq_false c3
      clear c3
      obtain rfl := Option.some.inj H
      go_enter Try.func66, Try.ntmps66
      go_wp2_with (first | ((with_reducible refine gate_dst (N := 1) rfl ?_); refine box_event ?hg (N := 1) ?hd (cs := #[.int .i64 a0_0, .int .i64 a0_1]) (t := 62) ?hr ?_; (case hd => rfl); (case hg => rfl); (case hr => first | (go_simp; done) | (go_simp; rfl)); intro gb125 hg w9 hbox hb; have n0_ := Aside0.mk (below_step (by repeat (first | (with_reducible first | exact HB.out | apply below_alloc | apply pw_below_drewN | apply below_drew1) | exact HB.out)) hb); have n1_ := Aside0.mk (hbox); have n2_ := Aside0.mk ((by rw [hg]; exact (below_size (by repeat (first | (with_reducible first | exact HB.out | apply below_alloc | apply pw_below_drewN | apply below_drew1) | exact HB.out))) : w.heap.size ≤ gb125)); have n3_ := Aside0.mk ((by rw [hg]; exact (below_size (by repeat (first | (with_reducible first | exact HB.out | apply below_alloc | apply pw_below_drewN | apply below_drew1) | exact HB.out))) : w.heap.size ≤ gb125)); clear HB; have HB := n0_; have BK125 := n1_; have GW125 := n2_; have GE125 := n3_; clear n0_ n1_ n2_ n3_; clear hb hbox hg; have hcz10_0 : w9.cell? ⟨gb125, 0, none⟩ = some (.int .i64 a0_0) := (blk_cell BK125.out 0).trans rfl; have hcz10_1 : w9.cell? ⟨gb125, 1, none⟩ = some (.int .i64 a0_1) := (blk_cell BK125.out 1).trans rfl; have hfz10_0 := blk_frozen BK125.out 0; have hfz10_1 := blk_frozen BK125.out 1))
      go_ret
      exact ⟨by first | rfl | (simp [errW_none, errW_some] <;> rfl) | (simp [*, errW_none, errW_some] <;> rfl), by repeat (first | (with_reducible first | exact HB.out | apply below_alloc | apply pw_below_drewN | apply below_drew1 | refine below_set ?_ GE125.out) | exact HB.out)⟩
  · rw [if_neg c2] at H
    have c2b0 : decide (0 ≤ a0_0) = false := decide_eq_false c2
    clear c2
    obtain rfl := Option.some.inj H
    go_enter Try.func66, Try.ntmps66
    go_wp2_with (first | ((with_reducible refine gate_dst (N := 1) rfl ?_); refine box_event ?hg (N := 1) ?hd (cs := #[.int .i64 a0_0, .int .i64 a0_1]) (t := 62) ?hr ?_; (case hd => rfl); (case hg => rfl); (case hr => first | (go_simp; done) | (go_simp; rfl)); intro gb125 hg w11 hbox hb; have n0_ := Aside0.mk (below_step (by repeat (first | (with_reducible first | exact HB.out | apply below_alloc | apply pw_below_drewN | apply below_drew1) | exact HB.out)) hb); have n1_ := Aside0.mk (hbox); have n2_ := Aside0.mk ((by rw [hg]; exact (below_size (by repeat (first | (with_reducible first | exact HB.out | apply below_alloc | apply pw_below_drewN | apply below_drew1) | exact HB.out))) : w.heap.size ≤ gb125)); have n3_ := Aside0.mk ((by rw [hg]; exact (below_size (by repeat (first | (with_reducible first | exact HB.out | apply below_alloc | apply pw_below_drewN | apply below_drew1) | exact HB.out))) : w.heap.size ≤ gb125)); clear HB; have HB := n0_; have BK125 := n1_; have GW125 := n2_; have GE125 := n3_; clear n0_ n1_ n2_ n3_; clear hb hbox hg; have hcz12_0 : w11.cell? ⟨gb125, 0, none⟩ = some (.int .i64 a0_0) := (blk_cell BK125.out 0).trans rfl; have hcz12_1 : w11.cell? ⟨gb125, 1, none⟩ = some (.int .i64 a0_1) := (blk_cell BK125.out 1).trans rfl; have hfz12_0 := blk_frozen BK125.out 0; have hfz12_1 := blk_frozen BK125.out 1))
    go_ret
    exact ⟨by first | rfl | (simp [errW_none, errW_some] <;> rfl) | (simp [*, errW_none, errW_some] <;> rfl), by repeat (first | (with_reducible first | exact HB.out | apply below_alloc | apply pw_below_drewN | apply below_drew1 | refine below_set ?_ GE125.out) | exact HB.out)⟩
def extmap_May.f (a0_0 : Int) (a0_1 : Int) (a0_2 : Int) (a0_3 : Int) : Option (Int) := (span_May.f a0_0 a0_1).bind fun t127 => (if t127 = 0 then ((extmap_place.f a0_2 a0_3).bind fun t128 => (if t128 = true then (some 0) else (some 1))) else (some 1))
set_option maxHeartbeats 8000000 in
set_option maxRecDepth 100000 in
theorem extmap_May.calls (a0_0 : Int) (a0_1 : Int) (a0_2 : Int) (a0_3 : Int) (r : Int) (w : World) (h : extmap_May.f a0_0 a0_1 a0_2 a0_3 = some r) :
    Calls Try.prog 54 #[.agg #[.int .i64 a0_0, .int .i64 a0_1, .int .i64 a0_2, .int .i64 a0_3]] w fun e w' => e = .returned (.int .i64 r) ∧ Below w.heap.size w w' := by
  have hu66 := Try.underlying66
  have hu64 := Try.underlying64
  have hu62 := Try.underlying62
  have HB := Aside0.mk (Below.refl w.heap.size w)
  have H : ((span_May.f a0_0 a0_1).bind fun t127 => (if t127 = 0 then ((extmap_place.f a0_2 a0_3).bind fun t128 => (if t128 = true then (some 0) else (some 1))) else (some 1))) = some r := h
  clear h
  replace H := Option.bind_eq_some_iff.mp H
  obtain ⟨t127, A20, H⟩ := H
  replace H : (if t127 = 0 then ((extmap_place.f a0_2 a0_3).bind fun t128 => (if t128 = true then (some 0) else (some 1))) else (some 1)) = some r := H
  have A2 := Aside0.mk A20
  clear A20
  by_cases c3 : t127 = 0
  · rw [if_pos c3] at H
    have c3b0 : (t127 == 0) = true := beq_iff_eq.mpr c3
    have c3b1 : (t127 != 0) = false := bne_eq_false_iff_eq.mpr c3
    clear c3
    replace H := Option.bind_eq_some_iff.mp H
    obtain ⟨t128, A40, H⟩ := H
    replace H : (if t128 = true then (some 0) else (some 1)) = some r := H
    have A4 := Aside0.mk A40
    clear A40
    by_cases c5 : t128 = true
    · subst c5
      have H1 : (some 0) = some r := by rw [if_pos rfl] at H; exact H
      clear H
      have H := H1
      clear H1
      obtain rfl := Option.some.inj H
      go_enter Try.func54, Try.ntmps54
      go_wp2_with (first | ((with_reducible refine gate_dst (N := 1) rfl ?_); refine box_event ?hg (N := 1) ?hd (cs := #[.int .i64 a0_0, .int .i64 a0_1, .int .i64 a0_2, .int .i64 a0_3]) (t := 66) ?hr ?_; (case hd => rfl); (case hg => rfl); (case hr => first | (go_simp; done) | (go_simp; rfl)); intro gb126 hg w6 hbox hb; have n0_ := Aside0.mk (below_step (by repeat (first | (with_reducible first | exact HB.out | apply below_alloc | apply pw_below_drewN | apply below_drew1) | exact HB.out)) hb); have n1_ := Aside0.mk (hbox); have n2_ := Aside0.mk ((by rw [hg]; exact (below_size (by repeat (first | (with_reducible first | exact HB.out | apply below_alloc | apply pw_below_drewN | apply below_drew1) | exact HB.out))) : w.heap.size ≤ gb126)); have n3_ := Aside0.mk ((by rw [hg]; exact (below_size (by repeat (first | (with_reducible first | exact HB.out | apply below_alloc | apply pw_below_drewN | apply below_drew1) | exact HB.out))) : w.heap.size ≤ gb126)); clear HB; have HB := n0_; have BK126 := n1_; have GW126 := n2_; have GE126 := n3_; clear n0_ n1_ n2_ n3_; clear hb hbox hg; have hcz7_0 : w6.cell? ⟨gb126, 0, none⟩ = some (.int .i64 a0_0) := (blk_cell BK126.out 0).trans rfl; have hcz7_1 : w6.cell? ⟨gb126, 1, none⟩ = some (.int .i64 a0_1) := (blk_cell BK126.out 1).trans rfl; have hcz7_2 : w6.cell? ⟨gb126, 2, none⟩ = some (.int .i64 a0_2) := (blk_cell BK126.out 2).trans rfl; have hcz7_3 : w6.cell? ⟨gb126, 3, none⟩ = some (.int .i64 a0_3) := (blk_cell BK126.out 3).trans rfl; have hfz7_0 := blk_frozen BK126.out 0; have hfz7_1 := blk_frozen BK126.out 1; have hfz7_2 := blk_frozen BK126.out 2; have hfz7_3 := blk_frozen BK126.out 3) | ((with_reducible refine gate_callee (f := 65) rfl ?_); refine goesL_ (some 5) rfl rfl Try.func65 (by kernel_rfl) rfl #[.agg #[.int .i64 a0_0, .int .i64 a0_1]] rfl (by (try simp only [List.map_toArray, List.map_cons, List.map_nil]); first | done | rfl | (simp only [List.length_drop, List.length_take]; rfl)) ?_; (with_reducible refine (span_May.calls a0_0 a0_1 t127 _ A2.out).mono ?_); rintro e w8 ⟨rfl, hb⟩; refine ⟨_, rfl, ?_⟩; have n0_ := Aside0.mk (blk_below (g := gb126) (o := .cells #[.int .i64 a0_0, .int .i64 a0_1, .int .i64 a0_2, .int .i64 a0_3] 66 (0, 0)) (by (with_reducible repeat (first | refine blk_drewN ?_ _ | refine blk_drew ?_ | refine blk_alloc ?_ _)); exact BK126.out) hb); have n1_ := Aside0.mk (below_step (by repeat (first | (with_reducible first | exact HB.out | apply below_alloc | apply pw_below_drewN | apply below_drew1 | refine below_set ?_ GE126.out) | exact HB.out)) hb); clear BK126; clear HB; have BK126 := n0_; have HB := n1_; clear n0_ n1_; (try clear hb); (try clear hb2); (try clear hk); (try clear hi); have hcz9_0 : w8.cell? ⟨gb126, 0, none⟩ = some (.int .i64 a0_0) := (blk_cell BK126.out 0).trans rfl; have hcz9_1 : w8.cell? ⟨gb126, 1, none⟩ = some (.int .i64 a0_1) := (blk_cell BK126.out 1).trans rfl; have hcz9_2 : w8.cell? ⟨gb126, 2, none⟩ = some (.int .i64 a0_2) := (blk_cell BK126.out 2).trans rfl; have hcz9_3 : w8.cell? ⟨gb126, 3, none⟩ = some (.int .i64 a0_3) := (blk_cell BK126.out 3).trans rfl; have hfz9_0 := blk_frozen BK126.out 0; have hfz9_1 := blk_frozen BK126.out 1; have hfz9_2 := blk_frozen BK126.out 2; have hfz9_3 := blk_frozen BK126.out 3) | (go_at_call 66; (with_reducible refine (extmap_place.calls a0_2 a0_3 true _ A4.out).mono ?_); rintro e w10 ⟨rfl, hb⟩; have n0_ := Aside0.mk (blk_below (g := gb126) (o := .cells #[.int .i64 a0_0, .int .i64 a0_1, .int .i64 a0_2, .int .i64 a0_3] 66 (0, 0)) (by (with_reducible repeat (first | refine blk_drewN ?_ _ | refine blk_drew ?_ | refine blk_alloc ?_ _)); exact BK126.out) hb); have n1_ := Aside0.mk (below_step (by repeat (first | (with_reducible first | exact HB.out | apply below_alloc | apply pw_below_drewN | apply below_drew1 | refine below_set ?_ GE126.out) | exact HB.out)) hb); clear BK126; clear HB; have BK126 := n0_; have HB := n1_; clear n0_ n1_; (try clear hb); (try clear hb2); (try clear hk); (try clear hi)))
      go_ret
      exact ⟨by first | rfl | (simp [errW_none, errW_some] <;> rfl) | (simp [*, errW_none, errW_some] <;> rfl), by repeat (first | (with_reducible first | exact HB.out | apply below_alloc | apply pw_below_drewN | apply below_drew1 | refine below_set ?_ GE126.out) | exact HB.out)⟩
    · replace c5 := Bool.eq_false_iff.mpr c5
      subst c5
      have H1 : (some 1) = some r := by rw [if_neg (show ¬ (false = true) by decide)] at H; exact H
      clear H
      have H := H1
      clear H1
      obtain rfl := Option.some.inj H
      go_enter Try.func54, Try.ntmps54
      go_wp2_with (first | ((with_reducible refine gate_dst (N := 1) rfl ?_); refine box_event ?hg (N := 1) ?hd (cs := #[.int .i64 a0_0, .int .i64 a0_1, .int .i64 a0_2, .int .i64 a0_3]) (t := 66) ?hr ?_; (case hd => rfl); (case hg => rfl); (case hr => first | (go_simp; done) | (go_simp; rfl)); intro gb126 hg w11 hbox hb; have n0_ := Aside0.mk (below_step (by repeat (first | (with_reducible first | exact HB.out | apply below_alloc | apply pw_below_drewN | apply below_drew1) | exact HB.out)) hb); have n1_ := Aside0.mk (hbox); have n2_ := Aside0.mk ((by rw [hg]; exact (below_size (by repeat (first | (with_reducible first | exact HB.out | apply below_alloc | apply pw_below_drewN | apply below_drew1) | exact HB.out))) : w.heap.size ≤ gb126)); have n3_ := Aside0.mk ((by rw [hg]; exact (below_size (by repeat (first | (with_reducible first | exact HB.out | apply below_alloc | apply pw_below_drewN | apply below_drew1) | exact HB.out))) : w.heap.size ≤ gb126)); clear HB; have HB := n0_; have BK126 := n1_; have GW126 := n2_; have GE126 := n3_; clear n0_ n1_ n2_ n3_; clear hb hbox hg; have hcz12_0 : w11.cell? ⟨gb126, 0, none⟩ = some (.int .i64 a0_0) := (blk_cell BK126.out 0).trans rfl; have hcz12_1 : w11.cell? ⟨gb126, 1, none⟩ = some (.int .i64 a0_1) := (blk_cell BK126.out 1).trans rfl; have hcz12_2 : w11.cell? ⟨gb126, 2, none⟩ = some (.int .i64 a0_2) := (blk_cell BK126.out 2).trans rfl; have hcz12_3 : w11.cell? ⟨gb126, 3, none⟩ = some (.int .i64 a0_3) := (blk_cell BK126.out 3).trans rfl; have hfz12_0 := blk_frozen BK126.out 0; have hfz12_1 := blk_frozen BK126.out 1; have hfz12_2 := blk_frozen BK126.out 2; have hfz12_3 := blk_frozen BK126.out 3) | ((with_reducible refine gate_callee (f := 65) rfl ?_); refine goesL_ (some 5) rfl rfl Try.func65 (by kernel_rfl) rfl #[.agg #[.int .i64 a0_0, .int .i64 a0_1]] rfl (by (try simp only [List.map_toArray, List.map_cons, List.map_nil]); first | done | rfl | (simp only [List.length_drop, List.length_take]; rfl)) ?_; (with_reducible refine (span_May.calls a0_0 a0_1 t127 _ A2.out).mono ?_); rintro e w13 ⟨rfl, hb⟩; refine ⟨_, rfl, ?_⟩; have n0_ := Aside0.mk (blk_below (g := gb126) (o := .cells #[.int .i64 a0_0, .int .i64 a0_1, .int .i64 a0_2, .int .i64 a0_3] 66 (0, 0)) (by (with_reducible repeat (first | refine blk_drewN ?_ _ | refine blk_drew ?_ | refine blk_alloc ?_ _)); exact BK126.out) hb); have n1_ := Aside0.mk (below_step (by repeat (first | (with_reducible first | exact HB.out | apply below_alloc | apply pw_below_drewN | apply below_drew1 | refine below_set ?_ GE126.out) | exact HB.out)) hb); clear BK126; clear HB; have BK126 := n0_; have HB := n1_; clear n0_ n1_; (try clear hb); (try clear hb2); (try clear hk); (try clear hi); have hcz14_0 : w13.cell? ⟨gb126, 0, none⟩ = some (.int .i64 a0_0) := (blk_cell BK126.out 0).trans rfl; have hcz14_1 : w13.cell? ⟨gb126, 1, none⟩ = some (.int .i64 a0_1) := (blk_cell BK126.out 1).trans rfl; have hcz14_2 : w13.cell? ⟨gb126, 2, none⟩ = some (.int .i64 a0_2) := (blk_cell BK126.out 2).trans rfl; have hcz14_3 : w13.cell? ⟨gb126, 3, none⟩ = some (.int .i64 a0_3) := (blk_cell BK126.out 3).trans rfl; have hfz14_0 := blk_frozen BK126.out 0; have hfz14_1 := blk_frozen BK126.out 1; have hfz14_2 := blk_frozen BK126.out 2; have hfz14_3 := blk_frozen BK126.out 3) | (go_at_call 66; (with_reducible refine (extmap_place.calls a0_2 a0_3 false _ A4.out).mono ?_); rintro e w15 ⟨rfl, hb⟩; have n0_ := Aside0.mk (blk_below (g := gb126) (o := .cells #[.int .i64 a0_0, .int .i64 a0_1, .int .i64 a0_2, .int .i64 a0_3] 66 (0, 0)) (by (with_reducible repeat (first | refine blk_drewN ?_ _ | refine blk_drew ?_ | refine blk_alloc ?_ _)); exact BK126.out) hb); have n1_ := Aside0.mk (below_step (by repeat (first | (with_reducible first | exact HB.out | apply below_alloc | apply pw_below_drewN | apply below_drew1 | refine below_set ?_ GE126.out) | exact HB.out)) hb); clear BK126; clear HB; have BK126 := n0_; have HB := n1_; clear n0_ n1_; (try clear hb); (try clear hb2); (try clear hk); (try clear hi)))
      go_ret
      exact ⟨by first | rfl | (simp [errW_none, errW_some] <;> rfl) | (simp [*, errW_none, errW_some] <;> rfl), by repeat (first | (with_reducible first | exact HB.out | apply below_alloc | apply pw_below_drewN | apply below_drew1 | refine below_set ?_ GE126.out) | exact HB.out)⟩
  · rw [if_neg c3] at H
    have c3b0 : (t127 == 0) = false := beq_eq_false_iff_ne.mpr c3
    have c3b1 : (t127 != 0) = true := bne_iff_ne.mpr c3
    obtain rfl := Option.some.inj H
    go_enter Try.func54, Try.ntmps54
    go_wp2_with (first | ((with_reducible refine gate_dst (N := 1) rfl ?_); refine box_event ?hg (N := 1) ?hd (cs := #[.int .i64 a0_0, .int .i64 a0_1, .int .i64 a0_2, .int .i64 a0_3]) (t := 66) ?hr ?_; (case hd => rfl); (case hg => rfl); (case hr => first | (go_simp; done) | (go_simp; rfl)); intro gb126 hg w16 hbox hb; have n0_ := Aside0.mk (below_step (by repeat (first | (with_reducible first | exact HB.out | apply below_alloc | apply pw_below_drewN | apply below_drew1) | exact HB.out)) hb); have n1_ := Aside0.mk (hbox); have n2_ := Aside0.mk ((by rw [hg]; exact (below_size (by repeat (first | (with_reducible first | exact HB.out | apply below_alloc | apply pw_below_drewN | apply below_drew1) | exact HB.out))) : w.heap.size ≤ gb126)); have n3_ := Aside0.mk ((by rw [hg]; exact (below_size (by repeat (first | (with_reducible first | exact HB.out | apply below_alloc | apply pw_below_drewN | apply below_drew1) | exact HB.out))) : w.heap.size ≤ gb126)); clear HB; have HB := n0_; have BK126 := n1_; have GW126 := n2_; have GE126 := n3_; clear n0_ n1_ n2_ n3_; clear hb hbox hg; have hcz17_0 : w16.cell? ⟨gb126, 0, none⟩ = some (.int .i64 a0_0) := (blk_cell BK126.out 0).trans rfl; have hcz17_1 : w16.cell? ⟨gb126, 1, none⟩ = some (.int .i64 a0_1) := (blk_cell BK126.out 1).trans rfl; have hcz17_2 : w16.cell? ⟨gb126, 2, none⟩ = some (.int .i64 a0_2) := (blk_cell BK126.out 2).trans rfl; have hcz17_3 : w16.cell? ⟨gb126, 3, none⟩ = some (.int .i64 a0_3) := (blk_cell BK126.out 3).trans rfl; have hfz17_0 := blk_frozen BK126.out 0; have hfz17_1 := blk_frozen BK126.out 1; have hfz17_2 := blk_frozen BK126.out 2; have hfz17_3 := blk_frozen BK126.out 3) | ((with_reducible refine gate_callee (f := 65) rfl ?_); refine goesL_ (some 5) rfl rfl Try.func65 (by kernel_rfl) rfl #[.agg #[.int .i64 a0_0, .int .i64 a0_1]] rfl (by (try simp only [List.map_toArray, List.map_cons, List.map_nil]); first | done | rfl | (simp only [List.length_drop, List.length_take]; rfl)) ?_; (with_reducible refine (span_May.calls a0_0 a0_1 t127 _ A2.out).mono ?_); rintro e w18 ⟨rfl, hb⟩; refine ⟨_, rfl, ?_⟩; have n0_ := Aside0.mk (blk_below (g := gb126) (o := .cells #[.int .i64 a0_0, .int .i64 a0_1, .int .i64 a0_2, .int .i64 a0_3] 66 (0, 0)) (by (with_reducible repeat (first | refine blk_drewN ?_ _ | refine blk_drew ?_ | refine blk_alloc ?_ _)); exact BK126.out) hb); have n1_ := Aside0.mk (below_step (by repeat (first | (with_reducible first | exact HB.out | apply below_alloc | apply pw_below_drewN | apply below_drew1 | refine below_set ?_ GE126.out) | exact HB.out)) hb); clear BK126; clear HB; have BK126 := n0_; have HB := n1_; clear n0_ n1_; (try clear hb); (try clear hb2); (try clear hk); (try clear hi)))
    go_ret
    exact ⟨by first | rfl | (simp [errW_none, errW_some] <;> rfl) | (simp [*, errW_none, errW_some] <;> rfl), by repeat (first | (with_reducible first | exact HB.out | apply below_alloc | apply pw_below_drewN | apply below_drew1 | refine below_set ?_ GE126.out) | exact HB.out)⟩
end Go.Proofs.Ytcjeegomonegpaa.PLivePlays
namespace Go.Proofs.Ytcjeegomonegpaa.PLivePlays
open Go.RowKit Go.Maps Go.Sort Go.Proofs.YtcjeegomonegpaaW.PrintWords Go.Proofs.YtcjeegomonegpaaW.PrintLast Go.Proofs.YtcjeegomonegpaaW.PrintMore
set_option linter.unusedVariables false
set_option linter.unusedSimpArgs false
noncomputable abbrev intR : Value → Option (DataW Unit × List MemPlace) := plainElem Try.prog 3
def numD (n : Int) : DataW Unit := .lit (.int .i64 n)
def CntR (x : S23) : Prop := 1 ≤ x.f0 ∧ x.f0 < 1099511627776 ∧ 0 ≤ x.f1 ∧ x.f1 ≤ 1000000000 ∧ x.f2 = x.f1
theorem key_cnt {x : S23} (h : CntR x) : keyOf Try.prog 3 (.int .i64 x.f0) = some (.int .i64 x.f0) := keyOf_int_mk Try.underlying3 (wf_of (by have := h.1; omega) (by have := h.2.1; omega))
def CntOf (D : DataW Unit) (T : List S23) : Prop :=
  T.Pairwise (fun x y => x.f0 < y.f0) ∧ (∀ x ∈ T, CntR x) ∧ (∀ kl, Maps.has D kl = true ↔ ∃ x ∈ T, kl = .int .i64 x.f0) ∧ ∀ x ∈ T, ∀ zd, D.atKey (.int .i64 x.f0) zd = numD x.f1
def CMap (w : World) (b N : Nat) (T : List S23) : Prop := T.length ≤ N ∧ ∃ D, w.ownsMap Try.prog 3 intR b N D ∧ CntOf D T
theorem CntOf.nil : CntOf (.map []) [] := ⟨List.Pairwise.nil, by simp, fun kl => by simp [Maps.has], by simp⟩
theorem CMap.lt {w : World} {b N : Nat} {T : List S23} (h : CMap w b N T) : b < w.heap.size := by
  obtain ⟨_, D, h, _⟩ := h
  exact h.lt
theorem CMap.kept {w w' : World} {b N : Nat} {T : List S23} {row : Option Nat} (h : CMap w b N T) (hg : w.grownBy w' row) (hne : some b ≠ row) : CMap w' b N T := by
  obtain ⟨h0, D, h, h1⟩ := h
  exact ⟨h0, D, h.kept hg hne, h1⟩
theorem CMap.mono {w : World} {b N M : Nat} {T : List S23} (h : CMap w b N T) (hM : N ≤ M) : CMap w b M T := by
  obtain ⟨h0, D, h, h1⟩ := h
  exact ⟨by omega, D, h.mono hM, h1⟩
theorem CMap.below {w w' : World} {b N : Nat} {T : List S23} (h : CMap w b N T) (hb : Below w.heap.size w w') : CMap w' b N T := h.kept (grown_of_below hb none) (by simp)
theorem CntOf.put {D : DataW Unit} {T : List S23} {x : S23} (h : CntOf D T) (hx : CntR x) (hm : IsMap D) : CntOf (D.put (.int .i64 x.f0) (numD x.f1)) (putT x T) := by
  obtain ⟨h1, h2, h3, h4⟩ := h
  have hk : WideAt.IsKeyLit (.int .i64 x.f0) := keyed3.key (key_cnt hx)
  refine ⟨putT_sorted h1, fun z hz => ?_, fun kl => ?_, fun z hz zd => ?_⟩
  · rcases (mem_putT h1).1 hz with rfl | ⟨hz, _⟩
    · exact hx
    · exact h2 z hz
  · by_cases he : kl = .int .i64 x.f0
    · subst he
      rw [has_put_same hm hk]
      simp only [true_iff]
      exact ⟨x, (mem_putT h1).2 (.inl rfl), rfl⟩
    · rw [has_put_other he, h3]
      constructor
      · rintro ⟨z, hz, rfl⟩
        exact ⟨z, (mem_putT h1).2 (.inr ⟨hz, fun e => he (by rw [e])⟩), rfl⟩
      · rintro ⟨z, hz, rfl⟩
        rcases (mem_putT h1).1 hz with rfl | ⟨hz, _⟩
        · exact absurd rfl he
        · exact ⟨z, hz, rfl⟩
  · rcases (mem_putT h1).1 hz with rfl | ⟨hz, hne⟩
    · exact atKey_put_same hm hk _ _
    · rw [atKey_put_other (by simpa using hne)]
      exact h4 z hz zd
def valT (T : List S23) (k : Int) : Int := ((findT T k).map (·.f1)).getD 0
theorem CntOf.has_iff {D : DataW Unit} {T : List S23} (h : CntOf D T) (k : Int) : Maps.has D (.int .i64 k) = (findT T k).isSome := by
  cases hf : findT T k with
  | some x =>
    obtain ⟨hx, rfl⟩ := findT_some hf
    rw [(h.2.2.1 _).2 ⟨x, hx, rfl⟩]
    rfl
  | none =>
    have hn := findT_none hf
    cases hh : Maps.has D (.int .i64 k) with
    | false => rfl
    | true =>
      obtain ⟨x, hx, e⟩ := (h.2.2.1 _).1 hh
      injection e with _ e
      exact absurd e.symm (hn x hx)
theorem zero3c (w : World) : (zeroValue 3).run Try.prog w = .ok (.int .i64 0) w := Try.zeroValue3 w
theorem CMap.look {w : World} {b N : Nat} {T : List S23} {k : Int} (h : CMap w b N T) (hk : (Lit.int .i64 k).wf = true) :
    (Instr.lookup 70 (.map (some b)) (.int .i64 k) false).run Try.prog w = .ok (.int .i64 (valT T k)) w := by
  obtain ⟨_, D, h, hm⟩ := h
  obtain ⟨c, hrun, hat, hwc⟩ := h.lookup_int keyed3 Try.underlying70 Try.underlying3 (zero3c w) (keyOf_int_mk Try.underlying3 hk)
  refine hrun.trans ?_
  have hc : c = valT T k := ?_
  · rw [hc]
  unfold valT
  cases hf : findT T k with
  | some x =>
    obtain ⟨hx, rfl⟩ := findT_some hf
    rw [hm.2.2.2 x hx] at hat
    simp [numD] at hat
    simpa using hat.symm
  | none =>
    have hh : Maps.has D (.int .i64 k) = false := by rw [hm.has_iff, hf]; rfl
    rw [atKey_of_not_has hh] at hat
    simp at hat
    simpa using hat.symm
theorem wp_putC {ops : Array Oper} {rest : List Oper} {o : Oper} {a : Act} {Q : Exit → Act → World → Prop} {W : World} {b N : Nat} {T : List S23} (hg : o.guard = none) (m x v : Operand) (hop : o.op = Op.mapUpdate 70 m x v)
    (hT : CMap W b N T) (hN : N < 1000000) (X : S23) (hX : CntR X) (hm : a.eval m = .map (some b)) (hx : a.eval x = .int .i64 X.f0) (hv : a.eval v = .int .i64 X.f1)
    (hK : ∀ w', CMap w' b (N + 1) (putT X T) → W.grownBy w' (some b) → wpList Try.prog ops Q rest (a.put o.dst undef) w') : wpList Try.prog ops Q (o :: rest) a W := by
  obtain ⟨h0, D, hown, hD⟩ := hT
  have hwf : (Lit.int .i64 X.f1).wf = true := wf_of (by have := hX.2.2.1; omega) (by have := hX.2.2.2.1; omega)
  refine wpList_mapUpdate_own W hg m x v 70 hop 3 3 keyed3 Try.underlying70 intR b N D hm hown (by unfold maxLen; omega) _ _ _ hx hv (key_cnt hX) (numD X.f1) [] (plainElem_int Try.underlying3 hwf) fun w' h1 h2 => ?_
  refine hK w' ⟨?_, _, h1, hD.put hX hown.isMap⟩ h2
  have := putT_len X T
  omega
def MayE (x : S66) : Prop := 0 ≤ x.f0.f0 ∧ 1 ≤ x.f0.f1 ∧ x.f0.f0 + x.f0.f1 ≤ 65536 ∧ 0 ≤ x.f1.f0 ∧ x.f1.f0 < 1099511627776 ∧ 0 ≤ x.f1.f1 ∧ x.f1.f1 < 1099511627776
instance (x : S66) : Decidable (MayE x) := by unfold MayE; infer_instance
theorem mayE_f (x : S66) : extmap_May.f x.f0.f0 x.f0.f1 x.f1.f0 x.f1.f1 = some (if MayE x then 0 else 1) := by
  unfold extmap_May.f span_May.f extmap_place.f
  by_cases h1 : x.f0.f0 < 0
  · simp [h1]
    unfold MayE
    omega
  · by_cases h2 : x.f0.f0 > 65536
    · simp [h1, h2]
      unfold MayE
      omega
    · have hw : wrap64 (65536 - x.f0.f0) = 65536 - x.f0.f0 := by unfold wrap64; omega
      rw [hw]
      by_cases h3 : x.f0.f1 < 1
      · simp [h1, h2, h3]
        unfold MayE
        omega
      · by_cases h4 : x.f0.f1 > 65536 - x.f0.f0
        · simp [h1, h2, h3, h4]
          unfold MayE
          omega
        · by_cases h5 : x.f1.f0 ≥ 0
          · by_cases h6 : x.f1.f0 < 1099511627776
            · by_cases h7 : x.f1.f1 ≥ 0
              · by_cases h8 : x.f1.f1 < 1099511627776
                · simp [h1, h2, h3, h4, h5, h6, h7, h8]
                  unfold MayE
                  omega
                · simp [h1, h2, h3, h4, h5, h6, h7, h8]
                  unfold MayE
                  omega
              · simp [h1, h2, h3, h4, h5, h6, h7]
                unfold MayE
                omega
            · simp [h1, h2, h3, h4, h5, h6]
              unfold MayE
              omega
          · simp [h1, h2, h3, h4, h5]
            unfold MayE
            omega
def addE (T : List S23) (x : S66) : List S23 := if x.f1.f0 = 0 then T else putT ⟨x.f1.f0, valT T x.f1.f0 + x.f0.f1, valT T x.f1.f0 + x.f0.f1⟩ T
def cntE : List S23 → List S66 → List S23
  | T, [] => T
  | T, x :: l => cntE (addE T x) l
theorem rd_T66_get {l : List S66} {k : Nat} (h : k < l.length) : rd_T66 l (k : Int) = l[k] := by
  unfold rd_T66
  rw [List.getD_eq_getElem?_getD, Int.toNat_natCast, List.getElem?_eq_getElem h]
  rfl
theorem ext_cells {w : World} {A : Option Addr} {l : List S66} (h : Kd.C k66 w A l.length l) (k : Nat) (hk : k < l.length) : ∃ ad, A = some ad ∧ w.cell? (ad.add (k * 4)) = some (.int .i64 l[k].f0.f0) ∧ w.cell? ⟨(ad.add (k * 4)).block, (ad.add (k * 4)).off + 1, none⟩ = some (.int .i64 l[k].f0.f1) ∧ w.cell? ⟨(ad.add (k * 4)).block, (ad.add (k * 4)).off + 2, none⟩ = some (.int .i64 l[k].f1.f0) ∧ w.cell? ⟨(ad.add (k * 4)).block, (ad.add (k * 4)).off + 3, none⟩ = some (.int .i64 l[k].f1.f1) := by
  obtain ⟨ad, e, h0, h1, h2, h3⟩ := at_T66 h (k : Int) (by omega) (by omega)
  rw [rd_T66_get hk, Int.toNat_natCast] at h0 h1 h2 h3
  exact ⟨ad, e, h0, h1, h2, h3⟩
theorem drop_cons66 {l : List S66} {k : Nat} (h : k < l.length) : l.drop k = l[k] :: l.drop (k + 1) := List.drop_eq_getElem_cons h
theorem valT_bound {T : List S23} {B : Int} (h : ∀ x ∈ T, 0 ≤ x.f1 ∧ x.f1 ≤ B) (hB : 0 ≤ B) (k : Int) : 0 ≤ valT T k ∧ valT T k ≤ B := by
  unfold valT
  cases hf : findT T k with
  | some x => simpa using h x (findT_some hf).1
  | none => simpa using hB
set_option maxRecDepth 100000 in
set_option maxHeartbeats 4000000 in
theorem counted_calls (A : Option Addr) (c : Nat) (l : List S66) (hl : l.length ≤ 40) (w : World) (hr : Kd.C k66 w A l.length l) :
    Calls Try.prog 31 #[.slice A l.length c] w fun e w' => Below w.heap.size w w' ∧
      (((∀ x ∈ l, MayE x) ∧ e = .returned (.tuple #[.map (some w.heap.size), .bool true]) ∧ CMap w' w.heap.size 40 (cntE [] l)) ∨ ((¬ ∀ x ∈ l, MayE x) ∧ e = .returned (.tuple #[.map none, .bool false]))) := by
  have HR := Aside0.mk hr
  clear hr
  have hmm := @run_makeMap Try.prog
  have hu70 := Try.underlying70
  have hu66 := Try.underlying66
  have hu62 := Try.underlying62
  have hu64 := Try.underlying64
  have hu3 := Try.underlying3
  have HM0 : Aside0 (CMap (w.alloc (.map #[] 0)) w.heap.size 0 []) := ⟨by simp, _, World.ownsMap_made w Try.prog 3 intR, CntOf.nil⟩
  have HB0 := Aside0.mk (below_alloc (Below.refl w.heap.size w) (.map #[] 0))
  go_enter Try.func31, Try.ntmps31
  go_wp2_with (fail)
  generalize (w.alloc (.map #[] 0)) = w1 at HM0 HB0 ⊢
  go_loopw [10] (fun v10 wr => ∃ (k : Nat) (T : List S23), k ≤ l.length ∧ v10 = .int .i64 k ∧ Aside0 (Below w.heap.size w wr) ∧ Aside0 (CMap wr w.heap.size k T) ∧ Aside0 (cntE [] l = cntE T (l.drop k)) ∧ Aside0 (∀ j (h : j < l.length), j < k → MayE l[j]) ∧ Aside0 (∀ x ∈ T, 0 ≤ x.f1 ∧ x.f1 ≤ 65536 * (k : Int))) (fun v10 _ => l.length - (intOf v10).toNat)
  case atStart => exact ⟨0, [], Nat.zero_le _, rfl, HB0, HM0, ⟨by simp⟩, ⟨fun j h hj => absurd hj (Nat.not_lt_zero _)⟩, ⟨by simp⟩⟩
  case round =>
    as_aux_lemma =>
      clear HM0 HB0
      obtain ⟨k, T, hk, rfl, HB, HM, HE, HA, HV⟩ := hrel
      by_cases hlt : k < l.length
      · have hk1 : k + 1 ≤ l.length := hlt
        obtain ⟨ad, rfl, c0, c1, c2, c3⟩ := ext_cells (Kd.C_below HR.out HB.out) k hlt
        have hcall := fun W => extmap_May.calls _ _ _ _ _ W (mayE_f l[k])
        generalize hx : l[k] = x at c0 c1 c2 c3 hcall
        have HX := Aside0.mk hx
        clear hx
        have hbx := Aside0.mk (blk_new wr (.cells #[.int .i64 x.f0.f0, .int .i64 x.f0.f1, .int .i64 x.f1.f0, .int .i64 x.f1.f1] 66))
        have HBa := Aside0.mk (below_alloc HB.out (.cells #[.int .i64 x.f0.f0, .int .i64 x.f0.f1, .int .i64 x.f1.f0, .int .i64 x.f1.f1] 66))
        have HMa := Aside0.mk (HM.out.below (below_alloc (Below.refl _ _) (.cells #[.int .i64 x.f0.f0, .int .i64 x.f0.f1, .int .i64 x.f1.f0, .int .i64 x.f1.f1] 66)))
        by_cases hm : MayE x
        · rw [if_pos hm] at hcall
          have HMx := Aside0.mk hm
          clear hm
          by_cases hz : x.f1.f0 = 0
          ·
            as_aux_lemma =>
              have hzb : (x.f1.f0 == 0) = true := by rw [hz]; rfl
              have HZ := Aside0.mk hz
              clear hz
              go_wp2_with (fail)
              refine (hcall _).mono ?_
              rintro e w2 ⟨rfl, hb2⟩
              have HB2 := Aside0.mk (below_step HBa.out hb2)
              have HM2 := Aside0.mk (HMa.out.below hb2)
              have bx := blk_below hbx.out hb2
              have k2 : w2.cell? ⟨wr.heap.size, 2, none⟩ = some (.int .i64 x.f1.f0) := (blk_cell bx 2).trans rfl
              clear hb2 bx c0 c1 c2 c3
              go_wp2_with (fail)
              refine ⟨⟨k + 1, T, hk1, by go_num, HB2, ⟨?_⟩, ⟨?_⟩, ⟨fun j h hj => ?_⟩, ⟨fun y hy => ?_⟩⟩, by simp [intOf]; omega⟩
              · exact HM2.out.mono (by omega)
              · rw [HE.out, drop_cons66 hlt, HX.out]
                show cntE (addE T x) _ = _
                unfold addE
                rw [if_pos HZ.out]
              · by_cases e : j = k
                · subst e
                  rw [HX.out]
                  exact HMx.out
                · exact HA.out j h (by omega)
              · have := HV.out y hy
                omega
          ·
            as_aux_lemma =>
              have hzb : (x.f1.f0 == 0) = false := by rw [beq_eq_false_iff_ne]; exact hz
              have HZ := Aside0.mk hz
              clear hz
              go_wp2_with (fail)
              refine (hcall _).mono ?_
              rintro e w2 ⟨rfl, hb2⟩
              have HB2 := Aside0.mk (below_step HBa.out hb2)
              have HM2 := Aside0.mk (HMa.out.below hb2)
              have bx := blk_below hbx.out hb2
              have k1 : w2.cell? ⟨wr.heap.size, 1, none⟩ = some (.int .i64 x.f0.f1) := (blk_cell bx 1).trans rfl
              have k2 : w2.cell? ⟨wr.heap.size, 2, none⟩ = some (.int .i64 x.f1.f0) := (blk_cell bx 2).trans rfl
              obtain ⟨m1, m2, m3, m4, m5, m6, m7⟩ := HMx.out
              have hlk := HM2.out.look (k := x.f1.f0) (wf_of (by omega) (by omega))
              obtain ⟨v1, v2⟩ := valT_bound (B := 65536 * (k : Int)) HV.out (by omega) x.f1.f0
              have hcn : CntR ⟨x.f1.f0, valT T x.f1.f0 + x.f0.f1, valT T x.f1.f0 + x.f0.f1⟩ := ⟨by have := HZ.out; simp only; omega, m5, by simp only; omega, by simp only; omega, rfl⟩
              have HCN := Aside0.mk hcn
              have hwr : IntKind.i64.wrap (valT T x.f1.f0 + x.f0.f1) = valT T x.f1.f0 + x.f0.f1 := IntWalk.i64_in _ (by omega)
              have hM2 := HM2.out
              clear hb2 bx c0 c1 c2 c3 hcn m1 m2 m3 m4 m5 m6 m7
              go_wp2_with (at_mapUpdate; go_loud (refine wp_putC rfl _ _ _ rfl hM2 (by omega) ⟨x.f1.f0, valT T x.f1.f0 + x.f0.f1, valT T x.f1.f0 + x.f0.f1⟩ HCN.out rfl rfl rfl ?_); intro w6 hT6 hg6)
              refine ⟨⟨k + 1, putT ⟨x.f1.f0, valT T x.f1.f0 + x.f0.f1, valT T x.f1.f0 + x.f0.f1⟩ T, hk1, by go_num, ⟨HB2.out.grown hg6 HB2.out.size (fun j hj => by obtain rfl := Option.some.inj hj; exact Nat.le_refl _)⟩, ⟨?_⟩, ⟨?_⟩, ⟨fun j h hj => ?_⟩, ⟨fun y hy => ?_⟩⟩, by simp [intOf]; omega⟩
              · exact hT6
              · rw [HE.out, drop_cons66 hlt, HX.out]
                show cntE (addE T x) _ = _
                unfold addE
                rw [if_neg HZ.out]
              · by_cases e : j = k
                · subst e
                  rw [HX.out]
                  exact HMx.out
                · exact HA.out j h (by omega)
              · have hs : T.Pairwise (fun x y => x.f0 < y.f0) := by obtain ⟨_, D, _, hD⟩ := HM.out; exact hD.1
                rcases (mem_putT hs).1 hy with rfl | ⟨hy, _⟩
                · have h1 := HMx.out.2.1
                  have h2 := HMx.out.1
                  have h3 := HMx.out.2.2.1
                  simp only
                  omega
                · have := HV.out y hy
                  omega
        ·
          as_aux_lemma =>
            rw [if_neg hm] at hcall
            have HMx := Aside0.mk hm
            clear hm
            go_wp2_with (fail)
            refine (hcall _).mono ?_
            rintro e w2 ⟨rfl, hb2⟩
            have HB2 := Aside0.mk (below_step HBa.out hb2)
            clear hb2 c0 c1 c2 c3
            go_wp2_with (fail)
            go_ret2
            exact ⟨HB2.out, .inr ⟨fun h => HMx.out (by rw [← HX.out]; exact h _ (List.getElem_mem hlt)), rfl⟩⟩
      · have : k = l.length := by omega
        subst this
        go_wp2_with (fail)
        go_ret2
        refine ⟨HB.out, .inl ⟨fun x hx => ?_, rfl, ?_⟩⟩
        · obtain ⟨j, hj, rfl⟩ := List.getElem_of_mem hx
          exact HA.out j hj hj
        · rw [HE.out, List.drop_length]
          exact HM.out.mono hl
end Go.Proofs.Ytcjeegomonegpaa.PLivePlays
namespace Go.Proofs.Ytcjeegomonegpaa.PLivePlays
open Go.RowKit Go.Maps Go.Sort Go.Proofs.YtcjeegomonegpaaW.PrintWords Go.Proofs.YtcjeegomonegpaaW.PrintLast Go.Proofs.YtcjeegomonegpaaW.PrintMore
set_option linter.unusedVariables false
set_option linter.unusedSimpArgs false
theorem sort_nil (w : World) : Calls Try.prog 32 #[.slice none 0 0, .func (.func 33) #[] #[]] w fun e w' => e = .returned (.tuple #[]) ∧ w' = w := by
  have h := AnyF.slices_SortFunc_none sortRow none 0 (.func (.func 33) #[] #[]) w
  change Calls Try.prog 32 _ _ _ at h
  exact h
theorem CntOf.came {D : DataW Unit} {T : List S23} (h : CntOf D T) : Came T (Maps.has D) [] :=
  ⟨List.nodup_nil, by simp, fun x hx => .inl ((h.2.2.1 _).2 ⟨x, hx, rfl⟩), fun kl hk => (h.2.2.1 kl).1 hk⟩
end Go.Proofs.Ytcjeegomonegpaa.PLivePlays
namespace Go.Proofs.Ytcjeegomonegpaa.PLivePlays
open Go.RowKit Go.Maps Go.Sort Go.Proofs.YtcjeegomonegpaaW.PrintWords Go.Proofs.YtcjeegomonegpaaW.PrintLast Go.Proofs.YtcjeegomonegpaaW.PrintMore
set_option linter.unusedVariables false
set_option linter.unusedSimpArgs false
namespace Wake
abbrev r1 : S23 := ⟨1, 10, 3⟩
abbrev r2 : S23 := ⟨2, 4, 4⟩
abbrev r3 : S23 := ⟨3, 6, 1⟩
instance : DecidableEq S23 := fun x y => decidable_of_iff (x.f0 = y.f0 ∧ x.f1 = y.f1 ∧ x.f2 = y.f2) (by cases x; cases y; simp)
def Three (x : S23) : Prop := x = r1 ∨ x = r2 ∨ x = r3
instance (x : S23) : Decidable (Three x) := by unfold Three; infer_instance
def rk (x : S23) : Nat := if x = r3 then 0 else if x = r1 then 1 else 2
theorem ok1 : PartOk r1 := .inr ⟨_, (by kernel_rfl : floatBits .quo .f64 (floatOfInt .f64 3) (floatOfInt .f64 10) = some 4599075939470750515)⟩
theorem ok2 : PartOk r2 := .inr ⟨_, (by kernel_rfl : floatBits .quo .f64 (floatOfInt .f64 4) (floatOfInt .f64 4) = some 4607182418800017408)⟩
theorem ok3 : PartOk r3 := .inr ⟨_, (by kernel_rfl : floatBits .quo .f64 (floatOfInt .f64 1) (floatOfInt .f64 6) = some 4595172819793696085)⟩
theorem ok (x : S23) (h : Three x) : PartOk x := by
  rcases h with rfl | rfl | rfl
  · exact ok1
  · exact ok2
  · exact ok3
theorem lt_rk (x y : S23) (hx : Three x) (hy : Three y) : decide (cmpP x y < 0) = decide (rk x < rk y) := by
  rcases hx with rfl | rfl | rfl <;> rcases hy with rfl | rfl | rfl <;> kernel_rfl
theorem lt_of (x y : S23) : ltOf (cmpQ Three r1) x y = decide (rk (fixR Three r1 x) < rk (fixR Three r1 y)) := by
  unfold ltOf cmpQ
  exact lt_rk _ _ (fixR_ok (.inl rfl) x) (fixR_ok (.inl rfl) y)
theorem swo : SWO (ltOf (cmpQ Three r1)) where
  irrefl x := by rw [lt_of]; simp
  trans x y z h1 h2 := by rw [lt_of] at *; simp at *; omega
  ntrans x y z h1 h2 := by rw [lt_of] at *; simp at *; omega
theorem added : addR [] [r1, r2, r3] = ([r1, r2, r3], 0) := by kernel_rfl
theorem kept : ([r1, r2, r3].filter fun x => !dead 50 x) = [r1, r3] := by kernel_rfl
theorem order {l : List S23} (hp : l.Perm [r1, r3]) (hs : l.Pairwise (fun x y => ltOf (cmpQ Three r1) y x = false)) : l = [r3, r1] := by
  have hlen := hp.length_eq
  match l, hlen with
  | [a, b], _ =>
    have hnd : [a, b].Nodup := hp.nodup_iff.2 (by decide)
    have ha : a ∈ [r1, r3] := hp.subset (by simp)
    have hb : b ∈ [r1, r3] := hp.subset (by simp)
    have hlt : ltOf (cmpQ Three r1) b a = false := (List.pairwise_cons.1 hs).1 b (by simp)
    simp only [List.mem_cons, List.not_mem_nil, or_false] at ha hb
    rcases ha with rfl | rfl <;> rcases hb with rfl | rfl
    · simp at hnd
    · have : ltOf (cmpQ Three r1) r3 r1 = true := by kernel_rfl
      rw [this] at hlt
      cases hlt
    · rfl
    · simp at hnd
theorem part3 : (FloatKind.f64.format.order (partB r1) 4599075939470750515 == some Ordering.eq) = true := by kernel_rfl
end Wake
open Wake
theorem ints_of {w : World} {base : Nat} {v : Value} {a b : Int} (h : w.ownsRow base 3 1 v 2 [.int .i64 a, .int .i64 b]) : ∃ g cap, v = .slice (some ⟨g, 0, none⟩) 2 cap ∧ w.cell? ⟨g, 0, none⟩ = some (.int .i64 a) ∧ w.cell? ⟨g, 1, none⟩ = some (.int .i64 b) := by
  rcases h.2 with ⟨_, h0⟩ | ⟨g, cap, cur, rfl, _, hg, h1, _, h2, h3⟩
  · cases h0
  · refine ⟨g, cap, rfl, ?_, ?_⟩
    · rw [blk_cell hg]
      have := congrArg (fun l => l[0]?) h3
      simp only [List.getElem?_take_of_lt (show 0 < 2 * 1 by omega)] at this
      simpa using this
    · rw [blk_cell hg]
      have := congrArg (fun l => l[1]?) h3
      simp only [List.getElem?_take_of_lt (show 1 < 2 * 1 by omega)] at this
      simpa using this
theorem reads3 {w : World} {g : Nat} (h : w.heap[g]? = some (.cells #[.int .i64 1, .int .i64 10, .int .i64 3, .int .i64 2, .int .i64 4, .int .i64 4, .int .i64 3, .int .i64 6, .int .i64 1] 23 (0, 0))) : Kd.C k23 w (some ⟨g, 0, none⟩) 3 [r1, r2, r3] := by
  have h1 : w.ownsRow 0 23 3 (.slice (some ⟨g, 0, none⟩) 3 3) 3 (flatR [r1, r2, r3]) := ⟨rfl, .inr ⟨g, 3, _, rfl, Nat.zero_le _, h, Nat.le_refl _, by decide, rfl, rfl⟩⟩
  rcases SlR.of_own (l := [r1, r2, r3]) h1 with ⟨h0, _⟩ | ⟨g', o, cap, e, _, _, _, hh⟩
  · cases h0
  · injection e with e1 e2 e3
    injection e1 with e1
    injection e1 with e1 e4
    subst e1; subst e4
    exact reads_of_holds hh (by decide)
set_option maxRecDepth 100000 in
set_option maxHeartbeats 4000000 in
theorem awake_calls (w : World) : Calls Try.prog 13 #[] w fun e w' => e = .returned (.bool true) ∧ Below w.heap.size w w' := by
  have hu28 := Try.underlying28
  have hu23 := Try.underlying23
  have hu3 := Try.underlying3
  have hu30 := Try.underlying30
  have hu40 := Try.underlying40
  have hu47 := Try.underlying47
  go_enter Try.func13, Try.ntmps13
  go_wp2_with (fail)
  refine (new_calls w).mono ?_
  rintro e w1 ⟨g, rfl, hg, hT, hb⟩
  have HG := Aside0.mk hg
  have HT := Aside0.mk hT
  have HB := Aside0.mk hb
  clear hg hT hb
  go_wp2_with (fail)
  have HBn := Aside0.mk (blk_new w1 (.cells #[.int .i64 1, .int .i64 10, .int .i64 3, .int .i64 2, .int .i64 4, .int .i64 4, .int .i64 3, .int .i64 6, .int .i64 1] 23))
  have HB2 := Aside0.mk (below_alloc HB.out (.cells #[.int .i64 1, .int .i64 10, .int .i64 3, .int .i64 2, .int .i64 4, .int .i64 4, .int .i64 3, .int .i64 6, .int .i64 1] 23))
  have HT2 := Aside0.mk (HT.out.below (below_alloc (Below.refl _ _) (.cells #[.int .i64 1, .int .i64 10, .int .i64 3, .int .i64 2, .int .i64 4, .int .i64 4, .int .i64 3, .int .i64 6, .int .i64 1] 23)))
  clear HB HT
  generalize (w1.alloc (.cells #[.int .i64 1, .int .i64 10, .int .i64 3, .int .i64 2, .int .i64 4, .int .i64 4, .int .i64 3, .int .i64 6, .int .i64 1] 23)) = w2 at HBn HB2 HT2 ⊢
  generalize w1.heap.size = gb at HBn ⊢
  have HA : Calls Try.prog 26 #[.pointer (some ⟨g, 0, none⟩), .slice (some ⟨gb, 0, none⟩) 3 3] w2 fun e w' => e = .returned (.int .i64 0) ∧ Tb w' g 3 [r1, r2, r3] ∧ w2.grownBy w' (some g) := by
    have h := add_calls g 0 [] (some ⟨gb, 0, none⟩) 3 [r1, r2, r3] w2 HT2.out (reads3 HBn.out) (by decide)
    rw [added] at h
    exact h
  refine HA.mono ?_
  rintro e w3 ⟨rfl, hT3, hg3⟩
  have HT3 := Aside0.mk hT3
  have HB3 := Aside0.mk (HB2.out.grown hg3 HB2.out.size (fun j hj => by obtain rfl := Option.some.inj hj; exact HG.out))
  clear hT3 hg3 HA HT2 HB2 HBn
  go_wp2_with (fail)
  have HV := Aside0.mk (victims_calls (P := Three) (z := r1) (.inl rfl) ok swo g 3 (by decide) [r1, r2, r3] (by simp) (fun x hx => by simpa [Three] using hx) (by decide) 50 w3 HT3.out)
  refine HV.out.mono ?_
  rintro e w4 ⟨v, l', rfl, hp, hs, hown, hb4⟩
  rw [kept] at hp
  obtain rfl := order hp hs
  have HB4 := Aside0.mk (below_step HB3.out hb4)
  obtain ⟨gv, cv, rfl, c0, c1⟩ := ints_of hown
  have HP := fun W => part_calls r1 ok1 W
  have hp3 := part3
  generalize partB r1 = pb at HP hp3
  clear hp hs hown hb4 HV HT3 HB3
  simp only at HP
  go_wp2_with (fail)
  refine (HP _).mono ?_
  rintro e w5 ⟨rfl, os, rfl⟩
  go_wp2_with (fail)
  go_ret
  exact ⟨rfl, below_step HB4.out (GrowOf.below ⟨0, os, rfl⟩)⟩
end Go.Proofs.Ytcjeegomonegpaa.PLivePlays
namespace Go.Proofs.Ytcjeegomonegpaa.PLivePlays
open Go.RowKit Go.Maps Go.Sort Go.Proofs.YtcjeegomonegpaaW.PrintWords Go.Proofs.YtcjeegomonegpaaW.PrintLast Go.Proofs.YtcjeegomonegpaaW.PrintMore
set_option linter.unusedVariables false
set_option linter.unusedSimpArgs false
theorem nil_insert (fv : Value) (w : World) : Calls Try.prog 67 #[.slice none 0 0, .int .i64 0, .int .i64 0, fv] w fun e w' => e = .returned (.tuple #[]) ∧ w' = w := by
  go_enter Try.func67, Try.ntmps67
  go_wp2
  refine wp_loop_rounds 1 ?_
  rw [rounds_succ]
  go_wp2
  go_end0
  exact ⟨rfl, rfl⟩
theorem nil_stable (fv : Value) (w : World) : Calls Try.prog 42 #[.slice none 0 0, fv] w fun e w' => e = .returned (.tuple #[]) ∧ w' = w := by
  have h60 : ∀ w, Calls Try.prog 60 #[.slice none 0 0, .int .i64 0, fv] w fun e w' => e = .returned (.tuple #[]) ∧ w' = w := fun w => by
    go_enter Try.func60, Try.ntmps60
    go_wp2
    refine wp_loop_rounds 1 ?_
    rw [rounds_succ]
    go_wp2_with (fail)
    refine (nil_insert fv _).mono ?_
    rintro e w' ⟨rfl, rfl⟩
    go_wp2_with (fail)
    refine wp_loop_rounds 1 ?_
    rw [rounds_succ]
    go_wp2_with (fail)
    go_end0
    exact ⟨rfl, rfl⟩
  go_enter Try.func42, Try.ntmps42
  go_wp2_with (fail)
  refine (h60 _).mono ?_
  rintro e w' ⟨rfl, rfl⟩
  go_wp2_with (fail)
  go_end0
  exact ⟨rfl, rfl⟩
theorem nil_delete (lb : Array Value) (w : World) : Calls Try.prog 40 #[.slice none 0 0, .func (.func 41) #[] lb] w fun e w' => e = .returned (.slice none 0 0) ∧ w' = w := by
  have h59 : ∀ w, Calls Try.prog 59 #[.slice none 0 0, .func (.func 41) #[] lb] w fun e w' => e = .returned (.int .i64 (-1)) ∧ w' = w := fun w => by
    go_enter Try.func59, Try.ntmps59
    go_wp2
    refine wp_loop_rounds 1 ?_
    rw [rounds_succ]
    go_wp2
    go_ret
    exact ⟨rfl, rfl⟩
  go_enter Try.func40, Try.ntmps40
  go_wp2_with (fail)
  refine (h59 _).mono ?_
  rintro e w' ⟨rfl, rfl⟩
  go_wp2_with (fail)
  go_ret
  exact ⟨rfl, rfl⟩
end Go.Proofs.Ytcjeegomonegpaa.PLivePlays
namespace Go.Proofs.Ytcjeegomonegpaa.PLivePlays
open Go.RowKit Go.Maps Go.Sort Go.Proofs.YtcjeegomonegpaaW.PrintWords Go.Proofs.YtcjeegomonegpaaW.PrintLast Go.Proofs.YtcjeegomonegpaaW.PrintMore
set_option linter.unusedVariables false
set_option linter.unusedSimpArgs false
set_option maxHeartbeats 1000000 in
theorem sortedfunc2 (b N : Nat) (hN : N ≤ 1000000) (T : List S23) (w : World) (Bm : Nat) (hm : w.heap[Bm]? = some (.cells #[.map (some b)] 77 (0, 0))) (hT : TMap w b N T) :
    Calls Try.prog 45 #[.func (.func 63) #[] #[.pointer (some ⟨Bm, 0, none⟩)], .func (.func 33) #[] #[]] w fun e w' => ∃ v, e = .returned v ∧ SlR w' w.heap.size v T ∧ Below w.heap.size w w' := by
  have hTl : T.length ≤ N := hT.1
  have hTs : T.Pairwise (fun x y => x.f0 < y.f0) := by obtain ⟨_, D, _, h⟩ := hT; exact h.1
  have HC := collect_calls b N hN T w Bm hm hT
  clear hT hm
  go_enter Try.func45, Try.ntmps45
  go_wp2_with (fail)
  refine HC.mono ?_
  rintro e w1 ⟨xs, v, rfl, hp, hown, hb⟩
  have hxl : xs.length = T.length := hp.length_eq
  rcases SlR.of_own hown with ⟨rfl, h0⟩ | ⟨gs, o, cap, rfl, hgs, hgl, hcap, hh⟩
  · subst h0
    have hTn : T = [] := hp.nil_eq.symm
    go_wp2_with (fail)
    refine (sort_nil _).mono ?_
    rintro e w2 ⟨rfl, rfl⟩
    go_wp2_with (fail)
    go_ret
    exact ⟨_, rfl, .inl ⟨rfl, hTn⟩, hb⟩
  · have HS := Aside0.mk (sort_holds gs o cap xs w1 hh hgl (by omega))
    have HXL := Aside0.mk hxl
    clear hown hh hxl
    go_wp2_with (fail)
    refine HS.out.mono ?_
    rintro e w2 ⟨rfl, l', hp2, hs2, hh2, hg2⟩
    go_wp2_with (fail)
    go_ret
    have e1 : l' = T := sorted_uniq (hp2.trans hp) (hs2.imp (fun h => by omega)) hTs
    subst e1
    exact ⟨_, rfl, .inr ⟨gs, o, cap, by first | rfl | (rw [HXL.out]; rfl), hgs, Nat.lt_of_lt_of_le hgl hg2.size, by rw [← HXL.out]; exact hcap, hh2⟩, hb.grown hg2 hb.size (fun j hj => by obtain rfl := Option.some.inj hj; exact hgs)⟩
theorem rows2 (g N : Nat) (hN : N ≤ 1000000) (T : List S23) (w : World) (hT : Tb w g N T) :
    Calls Try.prog 25 #[.pointer (some ⟨g, 0, none⟩)] w fun e w' => ∃ v, e = .returned v ∧ SlR w' w.heap.size v T ∧ Below w.heap.size w w' := by
  obtain ⟨b, hg, hM⟩ := hT
  have hu77 := Try.underlying77
  have hu79 := Try.underlying79
  have c0 : w.cell? ⟨g, 0, none⟩ = some (.map (some b)) := (blk_cell hg 0).trans rfl
  have hS := sortedfunc2 b N hN T (w.alloc (.cells #[.map (some b)] 77)) w.heap.size (blk_new w _) (hM.below (below_alloc (Below.refl _ _) _))
  go_enter Try.func25, Try.ntmps25
  go_wp2_with (fail)
  refine (val_plain _ _).mono ?_
  rintro e w' ⟨rfl, rfl⟩
  go_wp2_with (fail)
  refine hS.mono ?_
  rintro e w' ⟨v, rfl, hv, hb⟩
  go_wp2_with (fail)
  go_ret
  have hsz : (w.alloc (.cells #[.map (some b)] 77)).heap.size = w.heap.size + 1 := World.size_alloc _ _
  refine ⟨_, rfl, ?_, below_step (below_alloc (Below.refl _ _) _) hb⟩
  rcases hv with h | ⟨gs, o, cap, h1, h2, h3⟩
  · exact .inl h
  · exact .inr ⟨gs, o, cap, h1, by omega, h3⟩
set_option maxHeartbeats 1000000 in
theorem stable2 (g o cap : Nat) (l : List S23) (hl : ∀ x ∈ l, Full x) (hk : l.Pairwise (fun x y => x.f0 < y.f0)) (w : World) (hH : HoldsK rowL 3 w g o l.toArray) (hg : g < w.heap.size) (hn : l.length ≤ 1000000) :
    Calls Try.prog 42 #[.slice (some ⟨g, o, none⟩) l.length cap, .func (.func 43) #[] #[]] w fun e w' => e = .returned (.tuple #[]) ∧ ∃ l' : List S23, l'.Perm l ∧ l'.Pairwise (fun x y => lt2 y x = false) ∧ HoldsK rowL 3 w' g o l'.toArray ∧ w.grownBy w' (some g) := by
  have eg : ∀ args w, (callFunc 43 args).run Try.prog w = .ok (.enter 43 args) w := enters_of Try.func43 (by kernel_rfl) rfl
  have hH2 := (holds_encP (P := Full) (z := zF) hl).2 hH
  have hcon := stab_w (encP Full zF) (cmpQ Full zF) swoQ 43 #[] g o cap l.toArray w eg (cmpLaysQ zF_full full_ok g o l.toArray.size w) ⟨fun _ => rfl, fun x => rowL_one _, hH2, hg⟩ (by simp; omega)
  obtain ⟨hp, hs⟩ := stab_holds swo2 agree2 l.toArray.size l.toArray (Nat.le_refl _) (fun p q hpq hq => by
    have hq' : q < l.length := by simpa using hq
    rw [arr_bang l p (by omega), arr_bang l q hq']
    exact (List.pairwise_iff_getElem.1 hk) p q (by omega) hq' hpq)
  generalize stab (ltOf (cmpQ Full zF)) l.toArray.size l.toArray = d' at hcon hp hs
  have H60 : Aside0 (Calls Try.prog 60 #[.slice (some ⟨g, o, none⟩) l.length cap, .int .i64 (l.length : Int), .func (.func 43) #[] #[]] w fun e w' => e = .returned (.tuple #[]) ∧ ∃ l' : List S23, l'.Perm l ∧ l'.Pairwise (fun x y => lt2 y x = false) ∧ HoldsK rowL 3 w' g o l'.toArray ∧ w.grownBy w' (some g)) := ⟨by
    rw [List.size_toArray] at hcon
    refine hcon.mono fun e w' ⟨he, n, os, hw⟩ => ⟨he, d'.toList, ?_⟩
    have hperm : d'.toList.Perm l := by
      obtain ⟨h1, h2, h3⟩ := hp
      have e1 : d'.extract 0 l.toArray.size = d' := by rw [← h1]; simp
      have e2 : l.toArray.extract 0 l.toArray.size = l.toArray := by simp
      rw [List.size_toArray] at e1 e2
      rw [List.size_toArray, e1, e2] at h3
      exact h3
    refine ⟨hperm, ?_, ?_, ?_⟩
    · rw [List.pairwise_iff_getElem]
      intro i j hi hj hij
      have h1 := hs i j (Nat.zero_le _) hij (by have := hp.1; simp at this hj ⊢; omega)
      have hj' : j < d'.size := by simpa using hj
      have hi' : i < d'.size := by simpa using hi
      rw [getElem!_pos d' j hj', getElem!_pos d' i hi'] at h1
      simpa using h1
    · subst hw
      have := holdsK_sortWorldK_c (encP Full zF) 3 w g o l.toArray d' n os hH2 hg (by have := hp.1; simpa using this)
      have h2 : HoldsK (encP Full zF) 3 (sortWorldK (encP Full zF) 3 w g o n d' os) g o d'.toList.toArray := by simpa using this
      exact (holds_encP (fun x hx => hl x (hperm.subset hx))).1 h2
    · subst hw
      have e : sortWorldK (encP Full zF) 3 w g o n d' os = sortWorldK rowL 3 w g o n d' os := by
        unfold sortWorldK putRowK
        congr 2
        refine ext_get! (by simp) fun t ht => ?_
        have ht' : t < d'.size * 3 := by simpa using ht
        rw [get_flatK _ _ _ _ ht', get_flatK _ _ _ _ ht']
        have hi : t / 3 < d'.size := by omega
        rw [getElem!_pos d' (t / 3) hi]
        unfold encP
        rw [fixR_of (hl _ (hperm.subset (by rw [Array.mem_toList_iff]; exact Array.getElem_mem hi)))]
      rw [e]
      exact grown_sortK g o n l d' os w⟩
  clear hcon hp hs hH hH2 hl hk
  go_enter Try.func42, Try.ntmps42
  go_wp2_with (fail)
  refine H60.out.mono ?_
  rintro e w' ⟨rfl, H⟩
  have H := Aside0.mk H
  go_wp2_with (fail)
  go_end0
  exact ⟨rfl, H.out⟩
def keepV (pct : Int) (T : List S23) : List S23 := T.filter fun x => !dead pct x
theorem keepV_full {pct : Int} {T : List S23} (hp : -1000000 ≤ pct ∧ pct ≤ 1000000) (hT : ∀ x ∈ T, MayR x) : ∀ x ∈ keepV pct T, Full x := fun x hx => by
  obtain ⟨h1, h2⟩ := List.mem_filter.1 hx
  have hm := hT x h1
  refine ⟨hm, ?_⟩
  obtain ⟨m1, m2, m3, m4, m5, m6⟩ := hm
  unfold dead at h2
  by_cases h0 : x.f1 = 0
  · have e2 : x.f2 = 0 := by omega
    rw [h0, e2] at h2
    simp [wrap64] at h2
  · omega
theorem TMap.sorted {w : World} {b N : Nat} {T : List S23} (h : TMap w b N T) : T.Pairwise (fun x y => x.f0 < y.f0) := by
  obtain ⟨_, D, _, h⟩ := h
  exact h.1
theorem TMap.may {w : World} {b N : Nat} {T : List S23} (h : TMap w b N T) : ∀ x ∈ T, MayR x := by
  obtain ⟨_, D, _, h⟩ := h
  exact h.2.1
theorem Tb.sorted {w : World} {g N : Nat} {T : List S23} (h : Tb w g N T) : T.Pairwise (fun x y => x.f0 < y.f0) := by
  obtain ⟨b, _, h⟩ := h
  exact h.sorted
theorem Tb.may {w : World} {g N : Nat} {T : List S23} (h : Tb w g N T) : ∀ x ∈ T, MayR x := by
  obtain ⟨b, _, h⟩ := h
  exact h.may
theorem Tb.len {w : World} {g N : Nat} {T : List S23} (h : Tb w g N T) : T.length ≤ N := by
  obtain ⟨b, _, h⟩ := h
  exact h.1
set_option maxRecDepth 100000 in
set_option maxHeartbeats 4000000 in
theorem victims2 (g N : Nat) (hN : N ≤ 1000000) (T : List S23) (pct : Int) (hpct : -1000000 ≤ pct ∧ pct ≤ 1000000) (w : World) (hT : Tb w g N T) :
    Calls Try.prog 22 #[.pointer (some ⟨g, 0, none⟩), .int .i64 pct] w fun e w' => ∃ v l', e = .returned v ∧ l'.Perm (keepV pct T) ∧ l'.Pairwise (fun x y => lt2 y x = false) ∧ w'.ownsRow w.heap.size 3 1 v l'.length (seqsV l') ∧ Below w.heap.size w w' := by
  have hu28 := Try.underlying28
  have hu23 := Try.underlying23
  have hu3 := Try.underlying3
  have hu47 := Try.underlying47
  obtain ⟨i0, hi0, hz0, hz1, hz2⟩ := info_parts infoI
  have hTlen := Nat.le_trans hT.len hN
  have HFull := Aside0.mk (keepV_full hpct hT.may)
  have HSorted := Aside0.mk (hT.sorted.filter (fun x => !dead pct x))
  have HR := Aside0.mk (rows2 g N hN T (w.alloc (.cells #[.int .i64 pct] 3)) (hT.below (below_alloc (Below.refl _ _) _)))
  have HBp := Aside0.mk (Boxed.new w 3 (.int .i64 pct))
  have HBw := Aside0.mk (below_alloc (Below.refl w.heap.size w) (.cells #[.int .i64 pct] 3))
  have HSz := Aside0.mk (World.size_alloc w (.cells #[.int .i64 pct] 3))
  clear hT hpct
  go_enter Try.func22, Try.ntmps22
  go_wp2_with (fail)
  generalize (w.alloc (.cells #[.int .i64 pct] 3)) = wa at HR HBp HBw HSz ⊢
  refine HR.out.mono ?_
  rintro e w1 ⟨v, rfl, hv, hb1⟩
  rcases hv with ⟨rfl, h0⟩ | ⟨gs, o, cap, rfl, hgs, hgl, hcap, hh⟩
  · subst h0
    have HB1 := Aside0.mk (below_step HBw.out hb1)
    clear hb1 HFull HSorted
    go_wp2_with (fail)
    refine (nil_delete _ _).mono ?_
    rintro e w2 ⟨rfl, rfl⟩
    go_wp2_with (fail)
    refine (nil_stable _ _).mono ?_
    rintro e w3 ⟨rfl, rfl⟩
    go_wp2_with (fail)
    refine wp_loop_rounds 1 ?_
    rw [rounds_succ]
    go_wp2_with (fail)
    go_ret
    exact ⟨_, [], rfl, List.Perm.refl _, List.Pairwise.nil, World.ownsRow_nil _ _ _ _, HB1.out⟩
  have HB1 := Aside0.mk (below_step HBw.out hb1)
  have HD := Aside0.mk (delete_calls pct w.heap.size gs o cap T w1 hh hgl (by have := HSz.out; omega) (blk_below HBp.out hb1) (by omega) hcap)
  have HGS := Aside0.mk (show w.heap.size ≤ gs by have := HSz.out; omega)
  have HGL := Aside0.mk hgl
  clear hh hb1 hgs hgl hcap
  go_wp2_with (fail)
  refine HD.out.mono ?_
  rintro e w2 ⟨rfl, hh2, hg2⟩
  have hlen := List.length_filter_le (fun x => !dead pct x) T
  have hfull := HFull.out
  have hsorted := HSorted.out
  unfold keepV at hfull
  generalize hF : (T.filter fun x => !dead pct x) = F at hh2 hlen hfull hsorted ⊢
  have HF := Aside0.mk hF
  clear HD HFull HSorted hF
  have HL := Aside0.mk hlen
  have HSt := Aside0.mk (stable2 gs o cap F hfull hsorted w2 hh2 (Nat.lt_of_lt_of_le HGL.out hg2.size) (by omega))
  have HB2 := Aside0.mk (HB1.out.grown hg2 HB1.out.size (fun j hj => by obtain rfl := Option.some.inj hj; exact HGS.out))
  have HGL2 := Aside0.mk (Nat.lt_of_lt_of_le HGL.out hg2.size)
  clear hh2 hg2 HB1 HGL hlen hfull hsorted
  go_wp2_with (fail)
  refine HSt.out.mono ?_
  rintro e w3 ⟨rfl, l', hp3, hs3, hh3, hg3⟩
  have HP3 := Aside0.mk hp3
  have HS3 := Aside0.mk hs3
  have HH3 := Aside0.mk hh3
  have HB3 := Aside0.mk (HB2.out.grown hg3 HB2.out.size (fun j hj => by obtain rfl := Option.some.inj hj; exact HGS.out))
  have HGL3 := Aside0.mk (Nat.lt_of_lt_of_le HGL2.out hg3.size)
  have hfl : F.length = l'.length := hp3.length_eq.symm
  have hl20 : l'.length ≤ 1000000 := by have := HL.out; omega
  rw [hfl]
  clear hp3 hs3 hh3 hg3 HB2 HSt HGL2 hfl
  go_wp2_with (fail)
  go_loopw [6, 17] (fun v6 v17 wr => ∃ k : Nat, k ≤ l'.length ∧ v17 = .int .i64 k ∧ Aside0 (wr.ownsRow w3.heap.size 3 1 v6 k (seqsV (l'.take k))) ∧ Aside0 (Below w3.heap.size w3 wr)) (fun _ v17 _ => l'.length - (intOf v17).toNat)
  case atStart => exact ⟨0, Nat.zero_le _, rfl, ⟨World.ownsRow_nil _ _ _ _⟩, ⟨Below.refl _ _⟩⟩
  case round =>
    as_aux_lemma =>
      obtain ⟨k, hk, rfl, HO, HB⟩ := hrel
      by_cases hlt : k < l'.length
      · have hk1 : k + 1 ≤ l'.length := hlt
        have hh := holds_below HH3.out HB.out HGL3.out
        obtain ⟨⟨c0, c1, c2⟩, -⟩ := three_cells hh hlt
        clear hh
        generalize hx : l'[k] = x at c0 c1 c2
        have HX := Aside0.mk hx
        clear hx
        obtain ⟨x0, x1, x2⟩ := x
        simp only at c0 c1 c2
        have hown := HO.out.alloc (.cells #[.int .i64 x0, .int .i64 x1, .int .i64 x2] 23)
        have hbs := HB.out.size
        have hown2 := hown.alloc (.cells #[.int .i64 x0] 3)
        have hsz2 : (wr.alloc (.cells #[.int .i64 x0, .int .i64 x1, .int .i64 x2] 23)).heap.size = wr.heap.size + 1 := World.size_alloc _ _
        have hnw := cell_one_new (wr.alloc (.cells #[.int .i64 x0, .int .i64 x1, .int .i64 x2] 23)) (.int .i64 x0) 3
        rw [hsz2] at hnw
        have HBa := Aside0.mk (below_alloc HB.out (.cells #[.int .i64 x0, .int .i64 x1, .int .i64 x2] 23))
        go_wp2_with (at_builtin; refine wpList_append_own _ rfl _ _ 47 rfl w3.heap.size 3 i0 (.int .i64 0) 1 8 Try.underlying47 hi0 hz0 hz1 hz2 rfl (by decide) _ k _ rfl hown2 ⟨wr.heap.size + 1, 0, none⟩ 1 1 [.int .i64 x0] rfl rfl hnw (by simp [Value.oneCell']) (by unfold maxLen; omega) (by omega) (by simp; omega) ?_; intro v' w5 hown' hgrow _)
        have hB4 := below_alloc HBa.out (.cells #[.int .i64 x0] 3)
        refine ⟨⟨k + 1, hk1, by go_num, ⟨?_⟩, ⟨hB4.grown hgrow hB4.size (fun j hj => own_base hown2 j hj)⟩⟩, by simp [intOf]; omega⟩
        rw [seqs_step hlt, HX.out]
        exact hown'
      · have : k = l'.length := by omega
        subst this
        go_wp2_with (fail)
        go_ret
        refine ⟨_, l', rfl, by unfold keepV; rw [HF.out]; exact HP3.out, HS3.out, ?_, ?_⟩
        · have h := own_weaken HO.out HB3.out.size
          rw [List.take_length] at h
          exact h
        · exact below_step HB3.out HB.out
end Go.Proofs.Ytcjeegomonegpaa.PLivePlays
