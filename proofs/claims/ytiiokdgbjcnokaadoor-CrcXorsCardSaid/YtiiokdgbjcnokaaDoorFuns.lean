/- What the printed functions of crc answer, in the plain mathematics' words. No condition beyond what each theorem says. -/
import Derived.Test.YtiiokdgbjcnokaaDoorPAx
import Derived.Test.YtiiokdgbjcnokaaDoorMath
namespace Go.Proofs.YtiiokdgbjcnokaaDoor.PA
open Go.RowKit Go.Proofs.YtiiokdgbjcnokaaDoorW.PrintWords Go.Proofs.YtiiokdgbjcnokaaDoorW.PrintLast Go.Proofs.YtiiokdgbjcnokaaDoorW.PrintMore
open Go.Proofs.YtiiokdgbjcnokaaDoor.CrcMath
set_option linter.unusedVariables false
set_option linter.unusedSimpArgs false

theorem wrap_id {x : Int} (h1 : -9223372036854775808 ≤ x) (h2 : x < 9223372036854775808) : wrap64 x = x := by
  unfold wrap64; omega

theorem ofInt_toNat (a : R) : BitVec.ofInt 32 (a.toNat : Int) = a := by simp
theorem bx (a b : R) : Go.bits .xor .u32 (a.toNat : Int) (b.toNat : Int) = ((a ^^^ b).toNat : Int) := by
  have h : (a ^^^ b).toNat < 4294967296 := (a ^^^ b).isLt
  unfold Go.bits
  simp only [IntKind.bits, ofInt_toNat]
  rw [IntKind.wrap_u32]
  show ((a ^^^ b).toNat : Int) % 4294967296 = ((a ^^^ b).toNat : Int)
  omega
theorem ba (a b : R) : Go.bits .and .u32 (a.toNat : Int) (b.toNat : Int) = ((a &&& b).toNat : Int) := by
  have h : (a &&& b).toNat < 4294967296 := (a &&& b).isLt
  unfold Go.bits
  simp only [IntKind.bits, ofInt_toNat]
  rw [IntKind.wrap_u32]
  show ((a &&& b).toNat : Int) % 4294967296 = ((a &&& b).toNat : Int)
  omega
theorem bnot (a : R) : Go.bits .xor .u32 IntKind.u32.max (a.toNat : Int) = ((~~~ a).toNat : Int) := by
  have e : IntKind.u32.max = ((BitVec.allOnes 32).toNat : Int) := by decide
  rw [e, bx]
  rfl

theorem step_is (x : R) : crc_step.f (x.toNat : Int) = some ((S x).toNat : Int) := by
  unfold crc_step.f S
  rw [show ((1 : Int)) = ((1#32 : R).toNat : Int) by decide, ba]
  have e1 : (x.toNat : Int) / (2 : Int) = ((x >>> 1).toNat : Int) := by
    rw [BitVec.toNat_ushiftRight, Nat.shiftRight_eq_div_pow]; omega
  have e2 : (-(((x &&& 1#32).toNat : Int))) % 4294967296 = ((-(x &&& 1#32)).toNat : Int) := by
    have h : (x &&& 1#32).toNat < 4294967296 := (x &&& 1#32).isLt
    rw [BitVec.toNat_neg]
    omega
  have e3 : (2197175160 : Int) = (poly.toNat : Int) := by decide
  rw [e1, e2, e3, ba, bx]

theorem byted_from (n : Nat) : ∀ (k : Nat) (x : R) (i : Int), 8 - i = n → 0 ≤ i → i ≤ 8 → n < k → crc_byted.l0 k (x.toNat : Int) i = some ((it S n x).toNat : Int) := by
  induction n with
  | zero =>
    intro k x i hi h0 h8 hk
    obtain ⟨k, rfl⟩ : ∃ m, k = m + 1 := ⟨k - 1, by omega⟩
    simp only [crc_byted.l0]
    rw [if_neg (by omega)]
    rfl
  | succ n ih =>
    intro k x i hi h0 h8 hk
    obtain ⟨k, rfl⟩ : ∃ m, k = m + 1 := ⟨k - 1, by omega⟩
    simp only [crc_byted.l0]
    rw [if_pos (by omega), step_is]
    simp only [Option.bind_some]
    rw [wrap_id (by omega) (by omega)]
    exact ih k (S x) (i + 1) (by omega) (by omega) (by omega) (by omega)

theorem byted_is (x : R) (c : UInt8) (k : Nat) (hk : 9 ≤ k) : crc_byted.f k (x.toNat : Int) (c.toNat : Int) = some ((Bt x c).toNat : Int) := by
  unfold crc_byted.f
  have h : c.toNat < 256 := c.toBitVec.isLt
  rw [show ((c.toNat : Int)) % 4294967296 = ((w8 c).toNat : Int) by rw [w8_toNat]; omega, bx]
  exact byted_from 8 k _ 0 (by omega) (by omega) (by omega) (by omega)
theorem byted_ev (x : R) (c : UInt8) : Ev (fun k => crc_byted.f k (x.toNat : Int) (c.toNat : Int)) ((Bt x c).toNat : Int) := ⟨9, fun k hk => byted_is x c k hk⟩

theorem bt_list (s : ByteArray) (i : Nat) (h : i < s.size) : ∃ c : UInt8, bt s (i : Int) = (c.toNat : Int) ∧ s.data.toList.drop i = c :: s.data.toList.drop (i + 1) := by
  refine ⟨s[i], ?_, ?_⟩
  · unfold bt
    rw [Int.toNat_natCast, dif_pos h]
  · have hl : i < s.data.toList.length := by rw [data_length]; exact h
    rw [List.drop_eq_getElem_cons hl]
    rfl

/-- All bytes of parts, one behind the other. -/
def bytes (l : List ByteArray) : List UInt8 := l.flatMap fun s => s.data.toList
theorem bytes_nil : bytes [] = [] := rfl
theorem bytes_cons (s : ByteArray) (l : List ByteArray) : bytes (s :: l) = s.data.toList ++ bytes l := by simp [bytes]

theorem rdOf_at {l : List ByteArray} {i : Nat} (h : i < l.length) : rdOf ByteArray.empty l (i : Int) = l[i] := by
  unfold rdOf
  rw [Int.toNat_natCast]
  simp [h]

/-- Every part is one that a machine can hold. -/
def Fits (l : List ByteArray) : Prop := l.length ≤ 4611686018427387904 ∧ ∀ s ∈ l, s.size ≤ 4611686018427387904

theorem more_l1 {l : List ByteArray} (x0 : Int) (j : Nat) (s : ByteArray) (hs : s.size ≤ 4611686018427387904) (r : Int)
    (d : Nat) : ∀ (i : Nat) (x : R), s.size - i = d → i ≤ s.size → (∀ y : R, y = run x (s.data.toList.drop i) → Ev (fun k => crc_More.l0 k (y.toNat : Int) l x0 (wrap64 ((j : Int) + 1))) r) →
      Ev (fun k => crc_More.l1 k (x.toNat : Int) s l x0 (j : Int) (s.size : Int) (i : Int)) r := by
  induction d with
  | zero =>
    intro i x hd hi h
    have : s.data.toList.drop i = [] := by rw [List.drop_eq_nil_iff, data_length]; omega
    refine Ev.step (f := fun k => crc_More.l0 k (x.toNat : Int) l x0 (wrap64 ((j : Int) + 1))) ?_ (h x (by rw [this]; rfl))
    intro k
    simp only [crc_More.l1]
    rw [if_neg (by omega)]
  | succ d ih =>
    intro i x hd hi h
    obtain ⟨c, hb, hdrop⟩ := bt_list s i (by omega)
    refine Ev.step (f := fun k => (crc_byted.f k (x.toNat : Int) (c.toNat : Int)).bind fun t => crc_More.l1 k t s l x0 (j : Int) (s.size : Int) ((i + 1 : Nat) : Int)) ?_ ?_
    · intro k
      simp only [crc_More.l1]
      rw [if_pos (by omega), if_pos (by omega), if_pos (by omega), hb, wrap_id (by omega) (by omega)]
      rfl
    · refine Ev.bind (byted_ev x c) ?_
      refine ih (i + 1) (Bt x c) (by omega) (by omega) ?_
      intro y hy
      refine h y ?_
      rw [hdrop, run_cons]
      exact hy

theorem more_l0 {l : List ByteArray} (hl : Fits l) (d : Nat) : ∀ (j : Nat) (x : R), l.length - j = d → j ≤ l.length →
    Ev (fun k => crc_More.l0 k (x.toNat : Int) l (l.length : Int) (j : Int)) ((~~~ run x (bytes (l.drop j))).toNat : Int) := by
  obtain ⟨hl1, hl2⟩ := hl
  induction d with
  | zero =>
    intro j x hd hj
    have : l.drop j = [] := by rw [List.drop_eq_nil_iff]; omega
    rw [this]
    refine Ev.step (f := fun _ => some ((~~~ x).toNat : Int)) ?_ (Ev.now _)
    intro k
    simp only [crc_More.l0]
    rw [if_neg (by omega), bnot]
  | succ d ih =>
    intro j x hd hj
    have hlt : j < l.length := by omega
    have hr := rdOf_at hlt
    have hs := hl2 l[j] (List.getElem_mem hlt)
    refine Ev.step (f := fun k => crc_More.l1 k (x.toNat : Int) l[j] l (l.length : Int) (j : Int) (l[j].size : Int) ((0 : Nat) : Int)) ?_ ?_
    · intro k
      simp only [crc_More.l0]
      rw [if_pos (by omega), if_pos (by omega), if_pos (by omega), hr]
      rfl
    · refine more_l1 (l.length : Int) j l[j] hs _ l[j].size 0 x (by omega) (by omega) ?_
      intro y hy
      rw [wrap_id (by omega) (by omega), show ((j : Int) + 1) = ((j + 1 : Nat) : Int) by omega]
      have := ih (j + 1) y (by omega) (by omega)
      rw [List.drop_eq_getElem_cons hlt, bytes_cons, run_append]
      rw [List.drop_zero] at hy
      rw [← hy]
      exact this

theorem more_ev (c : R) {l : List ByteArray} (hl : Fits l) : Ev (fun k => crc_More.f k (c.toNat : Int) l) ((more c (bytes l)).toNat : Int) := by
  unfold crc_More.f
  rw [bnot]
  exact more_l0 hl l.length 0 (~~~ c) (by omega) (by omega)

theorem sum_ev {l : List ByteArray} (hl : Fits l) : Ev (fun k => crc_Sum.f k l) ((more 0#32 (bytes l)).toNat : Int) := by
  unfold crc_Sum.f
  exact Ev.bind (more_ev 0#32 hl) (Ev.now _)

end Go.Proofs.YtiiokdgbjcnokaaDoor.PA
