/- CRC-32C as plain mathematics over registers of 32 bits: a step is linear and one to one; what a text does to a register; sealed bytes; bursts. No program here. -/
namespace Go.Proofs.YtiiokdgbjcnokaaDoor.CrcMath

abbrev R := BitVec 32
def poly : R := 0x82f63b78#32
/-- A register, moved by a bit. -/
def S (x : R) : R := (x >>> 1) ^^^ (poly &&& -(x &&& 1#32))

theorem S_eq (x : R) : S x = (x >>> 1) ^^^ (if x.getLsbD 0 then poly else 0#32) := by
  unfold S
  rw [BitVec.and_one_eq_setWidth_ofBool_getLsbD]
  cases x.getLsbD 0
  · simp
  · simp only [if_true]
    congr 1

theorem S_xor (x y : R) : S (x ^^^ y) = S x ^^^ S y := by
  rw [S_eq, S_eq, S_eq, BitVec.getLsbD_xor, BitVec.ushiftRight_xor_distrib]
  have e : ∀ a b : R, (a ^^^ b) = (a ^^^ poly) ^^^ (b ^^^ poly) := by
    intro a b
    rw [BitVec.xor_assoc, ← BitVec.xor_assoc poly, BitVec.xor_comm poly b, BitVec.xor_assoc b, BitVec.xor_self, BitVec.xor_zero]
  cases x.getLsbD 0 <;> cases y.getLsbD 0 <;> simp
  · rw [BitVec.xor_assoc]
  · rw [BitVec.xor_assoc, BitVec.xor_comm (y >>> 1), ← BitVec.xor_assoc]
  · exact e _ _

theorem S_zero : S 0#32 = 0#32 := by decide

theorem S_ker (x : R) (h : S x = 0#32) : x = 0#32 := by
  rw [S_eq] at h
  cases hb : x.getLsbD 0 with
  | true =>
    rw [hb] at h
    have h31 : (x >>> 1).getLsbD 31 = false := by
      rw [BitVec.getLsbD_ushiftRight]
      exact BitVec.getLsbD_of_ge _ _ (by omega)
    have := congrArg (fun v => BitVec.getLsbD v 31) h
    simp only [if_true, BitVec.getLsbD_xor, h31] at this
    exact absurd this (by decide)
  | false =>
    rw [hb] at h
    simp only [Bool.false_eq_true, if_false, BitVec.xor_zero] at h
    have h1 := congrArg BitVec.toNat h
    rw [BitVec.toNat_ushiftRight, Nat.shiftRight_eq_div_pow] at h1
    have h2 : x.toNat % 2 = 0 := by
      have : x.getLsbD 0 = x.toNat.testBit 0 := rfl
      rw [hb, Nat.testBit_zero] at this
      simpa using this.symm
    apply BitVec.eq_of_toNat_eq
    simp at h1 ⊢
    omega

theorem xor_eq_zero {x y : R} (h : x ^^^ y = 0#32) : x = y := by
  have : x ^^^ y ^^^ y = 0#32 ^^^ y := by rw [h]
  rwa [BitVec.xor_assoc, BitVec.xor_self, BitVec.xor_zero, BitVec.zero_xor] at this

theorem S_inj {x y : R} (h : S x = S y) : x = y := by
  apply xor_eq_zero
  apply S_ker
  rw [S_xor, h, BitVec.xor_self]

/-- Linear: of two registers xor-ed it makes what it makes of both, xor-ed. -/
def Lin (f : R → R) : Prop := ∀ x y, f (x ^^^ y) = f x ^^^ f y
theorem Lin.zero {f : R → R} (h : Lin f) : f 0#32 = 0#32 := by
  have := h 0#32 0#32
  rw [BitVec.xor_self] at this
  have e : f 0#32 ^^^ f 0#32 = 0#32 := BitVec.xor_self
  rw [← this] at e
  exact e
theorem Lin.comp {f g : R → R} (hf : Lin f) (hg : Lin g) : Lin (fun x => f (g x)) := fun x y => by
  show f (g (x ^^^ y)) = _
  rw [hg, hf]
theorem S_lin : Lin S := S_xor

/-- n times. -/
def it (f : R → R) : Nat → R → R
  | 0, x => x
  | n + 1, x => it f n (f x)
theorem it_add (f : R → R) (a b : Nat) (x : R) : it f (a + b) x = it f b (it f a x) := by
  induction a generalizing x with
  | zero => rw [Nat.zero_add]; rfl
  | succ a ih => rw [Nat.succ_add]; exact ih (f x)
theorem it_two (f : R → R) (n : Nat) (x : R) : it (fun y => f (f y)) n x = it f (2 * n) x := by
  induction n generalizing x with
  | zero => rfl
  | succ n ih => rw [show 2 * (n + 1) = 2 * n + 1 + 1 by omega]; exact ih (f (f x))
theorem it_lin {f : R → R} (h : Lin f) (n : Nat) : Lin (it f n) := by
  induction n with
  | zero => exact fun _ _ => rfl
  | succ n ih => exact fun x y => by show it f n (f (x ^^^ y)) = _; rw [h, ih]; rfl
theorem it_inj {f : R → R} (h : ∀ x y, f x = f y → x = y) (n : Nat) : ∀ {x y : R}, it f n x = it f n y → x = y := by
  induction n with
  | zero => exact fun h => h
  | succ n ih => exact fun k => h _ _ (ih k)

/-- Eight steps. -/
def by8 (x : R) : R := it S 8 x
theorem by8_lin : Lin by8 := it_lin S_lin 8
theorem by8_inj {x y : R} (h : by8 x = by8 y) : x = y := it_inj (fun _ _ => S_inj) 8 h
/-- A byte as a register. -/
def w8 (c : UInt8) : R := c.toBitVec.setWidth 32
theorem w8_xor (a b : UInt8) : w8 (a ^^^ b) = w8 a ^^^ w8 b := by
  unfold w8
  rw [UInt8.toBitVec_xor, BitVec.setWidth_xor]
theorem w8_zero : w8 0 = 0#32 := by decide
theorem w8_toNat (c : UInt8) : (w8 c).toNat = c.toNat := by
  unfold w8
  rw [BitVec.toNat_setWidth]
  have : c.toBitVec.toNat < 256 := c.toBitVec.isLt
  exact Nat.mod_eq_of_lt (by omega)
/-- A register that took a byte. -/
def Bt (x : R) (c : UInt8) : R := by8 (x ^^^ w8 c)
/-- A register that took bytes. -/
def run (x : R) (l : List UInt8) : R := l.foldl Bt x
theorem run_nil (x : R) : run x [] = x := rfl
theorem run_cons (x : R) (c : UInt8) (l : List UInt8) : run x (c :: l) = run (Bt x c) l := rfl
theorem run_append (x : R) (a b : List UInt8) : run x (a ++ b) = run (run x a) b := by unfold run; rw [List.foldl_append]
/-- The check sum of bytes behind others. -/
def more (c : R) (l : List UInt8) : R := ~~~ run (~~~ c) l
theorem not_not (x : R) : ~~~ ~~~ x = x := by
  apply BitVec.eq_of_getLsbD_eq
  intro i hi
  simp [hi]
theorem more_append (c : R) (a b : List UInt8) : more c (a ++ b) = more (more c a) b := by
  unfold more
  rw [not_not, run_append]
theorem more_nil (c : R) : more c [] = c := not_not c

theorem run_xor (x y : R) : ∀ (a b : List UInt8), a.length = b.length → run (x ^^^ y) (List.zipWith (· ^^^ ·) a b) = run x a ^^^ run y b
  | [], [], _ => rfl
  | c :: a, d :: b, h => by
    rw [List.zipWith_cons_cons, run_cons, run_cons, run_cons]
    have e : Bt (x ^^^ y) (c ^^^ d) = Bt x c ^^^ Bt y d := by
      unfold Bt
      rw [← by8_lin, w8_xor]
      congr 1
      rw [BitVec.xor_assoc, BitVec.xor_assoc, ← BitVec.xor_assoc y, ← BitVec.xor_assoc (w8 c), BitVec.xor_comm y (w8 c)]
    rw [e]
    exact run_xor _ _ a b (by simpa using h)

theorem run_inj (l : List UInt8) : ∀ {x y : R}, run x l = run y l → x = y := by
  induction l with
  | nil => exact fun h => h
  | cons c l ih =>
    intro x y h
    have := by8_inj (ih h)
    have e : x ^^^ w8 c ^^^ w8 c = y ^^^ w8 c ^^^ w8 c := by rw [this]
    rwa [BitVec.xor_assoc, BitVec.xor_assoc, BitVec.xor_self, BitVec.xor_zero, BitVec.xor_zero] at e

/-- A byte 0. -/
def Z (x : R) : R := by8 x
theorem Z_lin : Lin Z := by8_lin
theorem run_zeros (x : R) (n : Nat) : run x (List.replicate n 0) = it Z n x := by
  induction n generalizing x with
  | zero => rfl
  | succ n ih =>
    rw [List.replicate_succ, run_cons, ih]
    show it Z n (Bt x 0) = it Z n (Z x)
    unfold Bt Z
    rw [w8_zero, BitVec.xor_zero]
theorem run_zero_zeros (n : Nat) : run 0#32 (List.replicate n 0) = 0#32 := by
  rw [run_zeros]; exact (it_lin Z_lin n).zero

theorem S_even (m : Nat) (h : 2 * m < 4294967296) : S (BitVec.ofNat 32 (2 * m)) = BitVec.ofNat 32 m := by
  rw [S_eq]
  have e : (BitVec.ofNat 32 (2 * m)).getLsbD 0 = false := by
    show (BitVec.ofNat 32 (2 * m)).toNat.testBit 0 = false
    rw [BitVec.toNat_ofNat, Nat.testBit_zero]
    simp
  rw [e]
  simp only [Bool.false_eq_true, if_false, BitVec.xor_zero]
  apply BitVec.eq_of_toNat_eq
  rw [BitVec.toNat_ushiftRight, Nat.shiftRight_eq_div_pow, BitVec.toNat_ofNat, BitVec.toNat_ofNat]
  omega

theorem by8_high (m : Nat) (h : 256 * m < 4294967296) : by8 (BitVec.ofNat 32 (256 * m)) = BitVec.ofNat 32 m := by
  unfold by8
  have e : ∀ (k j : Nat), 2 ^ k * j < 4294967296 → it S k (BitVec.ofNat 32 (2 ^ k * j)) = BitVec.ofNat 32 j := by
    intro k
    induction k with
    | zero => intro j _; rw [Nat.pow_zero, Nat.one_mul]; rfl
    | succ k ih =>
      intro j hj
      rw [Nat.pow_succ, Nat.mul_comm (2 ^ k) 2, Nat.mul_assoc] at hj ⊢
      show it S k (S _) = _
      rw [S_even _ hj]
      exact ih j (by omega)
  exact e 8 m h

/-- Four bytes as a register, the lowest one first. -/
def word (a b c d : UInt8) : R := BitVec.ofNat 32 (a.toNat + 256 * (b.toNat + 256 * (c.toNat + 256 * d.toNat)))
theorem w8_ofNat (c : UInt8) : w8 c = BitVec.ofNat 32 c.toNat := by
  apply BitVec.eq_of_toNat_eq
  rw [w8_toNat, BitVec.toNat_ofNat]
  have : c.toNat < 256 := c.toBitVec.isLt
  omega
theorem split_low (a : UInt8) (m : Nat) (h : 256 * m + 255 < 4294967296) : BitVec.ofNat 32 (a.toNat + 256 * m) = w8 a ^^^ BitVec.ofNat 32 (256 * m) := by
  have ha : a.toNat < 256 := a.toBitVec.isLt
  apply BitVec.eq_of_toNat_eq
  rw [BitVec.toNat_xor, w8_toNat, BitVec.toNat_ofNat, BitVec.toNat_ofNat, Nat.mod_eq_of_lt (by omega), Nat.mod_eq_of_lt (by omega)]
  apply Nat.eq_of_testBit_eq
  intro i
  rw [Nat.testBit_xor, Nat.add_comm, show 256 * m + a.toNat = 2 ^ 8 * m + a.toNat by rfl, Nat.testBit_two_pow_mul_add _ (by simpa using ha), show 256 * m = 2 ^ 8 * m by rfl, Nat.testBit_two_pow_mul]
  by_cases hi : i < 8
  · simp [hi, show ¬ 8 ≤ i by omega]
  · have : a.toNat.testBit i = false := Nat.testBit_lt_two_pow (Nat.lt_of_lt_of_le ha (by
      have : 2 ^ 8 ≤ 2 ^ i := Nat.pow_le_pow_right (by decide) (by omega)
      simpa using this))
    simp [hi, this, show 8 ≤ i by omega]
theorem run_word (x : R) (a b c d : UInt8) : run x [a, b, c, d] = it S 32 (x ^^^ word a b c d) := by
  have ha : a.toNat < 256 := a.toBitVec.isLt
  have hb : b.toNat < 256 := b.toBitVec.isLt
  have hc : c.toNat < 256 := c.toBitVec.isLt
  have hd : d.toNat < 256 := d.toBitVec.isLt
  have e : ∀ y : R, it S 32 y = by8 (by8 (by8 (by8 y))) := fun y => rfl
  rw [e]
  have step : ∀ (y : R) (q : UInt8) (m : Nat), 256 * m + 255 < 4294967296 → by8 (y ^^^ BitVec.ofNat 32 (q.toNat + 256 * m)) = Bt y q ^^^ BitVec.ofNat 32 m := by
    intro y q m h
    rw [split_low q m h, ← BitVec.xor_assoc, by8_lin, by8_high m (by omega)]
    rfl
  unfold word
  rw [step x a _ (by omega), step _ b _ (by omega), step _ c _ (by omega), show d.toNat = d.toNat + 256 * 0 by omega, step _ d 0 (by omega)]
  rw [show BitVec.ofNat 32 0 = 0#32 by rfl, BitVec.xor_zero]
  rfl

theorem word_zero {a b c d : UInt8} (h : word a b c d = 0#32) : a = 0 ∧ b = 0 ∧ c = 0 ∧ d = 0 := by
  have ha : a.toNat < 256 := a.toBitVec.isLt
  have hb : b.toNat < 256 := b.toBitVec.isLt
  have hc : c.toNat < 256 := c.toBitVec.isLt
  have hd : d.toNat < 256 := d.toBitVec.isLt
  have := congrArg BitVec.toNat h
  unfold word at this
  rw [BitVec.toNat_ofNat, BitVec.toNat_ofNat] at this
  refine ⟨UInt8.toNat_inj.1 ?_, UInt8.toNat_inj.1 ?_, UInt8.toNat_inj.1 ?_, UInt8.toNat_inj.1 ?_⟩ <;> simp <;> omega
theorem it32_inj {x y : R} (h : it S 32 x = it S 32 y) : x = y := it_inj (fun _ _ => S_inj) 32 h

/-- A check sum as four bytes, the lowest one first. -/
def byte (x : R) (k : Nat) : UInt8 := UInt8.ofNat (x.toNat / 2 ^ (8 * k))
def four (x : R) : List UInt8 := [byte x 0, byte x 1, byte x 2, byte x 3]
theorem four_length (x : R) : (four x).length = 4 := rfl
theorem word_four (x : R) : word (byte x 0) (byte x 1) (byte x 2) (byte x 3) = x := by
  have hx : x.toNat < 4294967296 := x.isLt
  apply BitVec.eq_of_toNat_eq
  unfold word byte
  rw [BitVec.toNat_ofNat]
  simp only [UInt8.toNat_ofNat']
  simp
  omega
/-- What a sealed text comes to, whatever it is. -/
def residue : R := it S 32 (BitVec.allOnes 32)
theorem run_four (x : R) : run x (four (~~~ x)) = residue := by
  unfold four residue
  rw [run_word, word_four]
  congr 1
  apply BitVec.eq_of_getLsbD_eq
  intro i hi
  rw [BitVec.getLsbD_xor, BitVec.getLsbD_not, BitVec.getLsbD_allOnes]
  cases x.getLsbD i <;> simp [hi]
theorem run_four_iff (x : R) (a b c d : UInt8) (h : run x [a, b, c, d] = residue) : [a, b, c, d] = four (~~~ x) := by
  have h1 : run x [a, b, c, d] = run x (four (~~~ x)) := by rw [h, run_four]
  unfold four at h1
  rw [run_word, run_word] at h1
  have h2 := it32_inj h1
  have h3 : word a b c d = ~~~ x := by
    rw [word_four] at h2
    have : x ^^^ (x ^^^ word a b c d) = x ^^^ (x ^^^ ~~~ x) := by rw [h2]
    rwa [← BitVec.xor_assoc, ← BitVec.xor_assoc, BitVec.xor_self, BitVec.zero_xor, BitVec.zero_xor] at this
  have ha : a.toNat < 256 := a.toBitVec.isLt
  have hb : b.toNat < 256 := b.toBitVec.isLt
  have hc : c.toNat < 256 := c.toBitVec.isLt
  have hd : d.toNat < 256 := d.toBitVec.isLt
  have h4 : (~~~ x).toNat = a.toNat + 256 * (b.toNat + 256 * (c.toNat + 256 * d.toNat)) := by
    rw [← h3]
    unfold word
    rw [BitVec.toNat_ofNat]
    omega
  unfold four byte
  rw [h4]
  have e : ∀ (q : UInt8) (n : Nat), n % 256 = q.toNat → UInt8.ofNat n = q := by
    intro q n h
    apply UInt8.toNat_inj.1
    rw [UInt8.toNat_ofNat']
    simpa using h
  rw [e a _ (by simp), e b _ (by simp; omega), e c _ (by simp; omega), e d _ (by simp; omega)]

/-- Sealed bytes. -/
def seal_ (l : List UInt8) : List UInt8 := l ++ four (more 0#32 l)
theorem run_seal (l : List UInt8) : run (BitVec.allOnes 32) (seal_ l) = residue := by
  unfold seal_ more
  rw [run_append, show ~~~ (0#32) = BitVec.allOnes 32 by decide]
  exact run_four _
/-- Bytes are sealed just if they come to the residue. -/
theorem sealed_of_run (t : List UInt8) (q : List UInt8) (hq : q.length = 4) (h : run (BitVec.allOnes 32) (t ++ q) = residue) : seal_ t = t ++ q := by
  match q, hq with
  | [a, b, c, d], _ =>
    unfold seal_ more
    rw [run_append] at h
    rw [show ~~~ (0#32) = BitVec.allOnes 32 by decide, ← run_four_iff _ a b c d h]

/-- Up to four bytes in a row that are not all 0, in the midst of zeros, leave no register 0. -/
theorem run_burst (i j : Nat) (e : List UInt8) (hl : e.length ≤ 4) (he : ∃ c ∈ e, c ≠ 0) : run 0#32 (List.replicate i 0 ++ (e ++ List.replicate j 0)) ≠ 0#32 := by
  intro h
  rw [run_append, run_zero_zeros, run_append] at h
  have h0 : run 0#32 e = 0#32 := by
    have : run (run 0#32 e) (List.replicate j 0) = run 0#32 (List.replicate j 0) := by rw [h, run_zero_zeros]
    exact run_inj _ this
  have h1 : run 0#32 (e ++ List.replicate (4 - e.length) 0) = 0#32 := by rw [run_append, h0, run_zero_zeros]
  have four0 : ∀ a b c d : UInt8, run 0#32 [a, b, c, d] = 0#32 → a = 0 ∧ b = 0 ∧ c = 0 ∧ d = 0 := by
    intro a b c d h
    rw [run_word, BitVec.zero_xor] at h
    have : it S 32 (word a b c d) = it S 32 0#32 := by rw [h, (it_lin S_lin 32).zero]
    exact word_zero (it32_inj this)
  obtain ⟨c, hc, hne⟩ := he
  match e, hl with
  | [], _ => cases hc
  | [a], _ =>
    obtain ⟨ha, _⟩ := four0 a 0 0 0 h1
    simp at hc; subst hc; exact hne ha
  | [a, b], _ =>
    obtain ⟨ha, hb, _⟩ := four0 a b 0 0 h1
    simp at hc; rcases hc with rfl | rfl
    · exact hne ha
    · exact hne hb
  | [a, b, d], _ =>
    obtain ⟨ha, hb, hd, _⟩ := four0 a b d 0 h1
    simp at hc; rcases hc with rfl | rfl | rfl
    · exact hne ha
    · exact hne hb
    · exact hne hd
  | [a, b, d, e], _ =>
    obtain ⟨ha, hb, hd, he⟩ := four0 a b d e h1
    simp at hc; rcases hc with rfl | rfl | rfl | rfl
    · exact hne ha
    · exact hne hb
    · exact hne hd
    · exact hne he

end Go.Proofs.YtiiokdgbjcnokaaDoor.CrcMath
