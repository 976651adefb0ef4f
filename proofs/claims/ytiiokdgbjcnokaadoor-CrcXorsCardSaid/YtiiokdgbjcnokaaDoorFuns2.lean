/- What the printed functions of crc and of its reference answer, the rest. No condition beyond what each theorem says. -/
import Derived.Test.YtiiokdgbjcnokaaDoorFuns
namespace Go.Proofs.YtiiokdgbjcnokaaDoor.PA
open Go.RowKit Go.Proofs.YtiiokdgbjcnokaaDoorW.PrintWords Go.Proofs.YtiiokdgbjcnokaaDoorW.PrintLast Go.Proofs.YtiiokdgbjcnokaaDoorW.PrintMore
open Go.Proofs.YtiiokdgbjcnokaaDoor.CrcMath
set_option linter.unusedVariables false
set_option linter.unusedSimpArgs false

/-- Bytes as a string. -/
def strB (l : List UInt8) : ByteArray := ⟨l.toArray⟩
theorem strB_list (l : List UInt8) : (strB l).data.toList = l := rfl
theorem strB_size (l : List UInt8) : (strB l).size = l.length := by rw [← data_length, strB_list]
theorem strB_self (s : ByteArray) : strB s.data.toList = s := rfl
theorem bytes_ext {a b : ByteArray} (h : a.data.toList = b.data.toList) : a = b := by rw [← strB_self a, ← strB_self b, h]
theorem append_list (a b : ByteArray) : (a ++ b).data.toList = a.data.toList ++ b.data.toList := by simp
theorem extract_list (s : ByteArray) (i j : Nat) : (s.extract i j).data.toList = (s.data.toList.take j).drop i := by
  rw [ByteArray.data_extract, Array.toList_extract]
  simp [List.extract_eq_take_drop, List.take_drop]
  by_cases h : i ≤ j
  · rw [show i + (j - i) = j by omega]
  · rw [List.drop_eq_nil_iff.2 (by simp; omega), List.drop_eq_nil_iff.2 (by simp; omega)]

theorem byte_toNat (x : R) (k : Nat) : (byte x k).toNat = x.toNat / 2 ^ (8 * k) % 256 := by
  unfold byte; rw [UInt8.toNat_ofNat']
theorem four_nums (x : R) : strOfNums [(x.toNat : Int) % 256, ((x.toNat : Int) / 256) % 256, ((x.toNat : Int) / 65536) % 256, ((x.toNat : Int) / 16777216) % 256] = strB (four x) := by
  have e : ∀ k : Nat, ∀ n : Int, n = ((x.toNat / 2 ^ (8 * k) % 256 : Nat) : Int) → UInt8.ofNat n.toNat = byte x k := by
    intro k n h
    apply UInt8.toNat_inj.1
    rw [h, Int.toNat_natCast, byte_toNat, UInt8.toNat_ofNat']
    omega
  unfold strOfNums strB four
  simp only [List.map_cons, List.map_nil]
  rw [e 0 _ (by simp), e 1 _ (by simp), e 2 _ (by simp), e 3 _ (by simp)]

theorem one_fits {s : ByteArray} (hs : s.size ≤ 4611686018427387904) : Fits [s] := ⟨by simp, by intro t ht; simp at ht; rw [ht]; exact hs⟩
theorem bytes_one (s : ByteArray) : bytes [s] = s.data.toList := by simp [bytes]

/-- A sealed string. -/
def sealB (s : ByteArray) : ByteArray := strB (seal_ s.data.toList)
theorem seal_ev {s : ByteArray} (hs : s.size ≤ 4611686018427387904) : Ev (fun k => crc_Seal.f k s) (sealB s) := by
  unfold crc_Seal.f
  have h := sum_ev (one_fits hs)
  rw [bytes_one] at h
  refine Ev.bind h ?_
  refine Ev.congr (f := fun _ => some (sealB s)) ?_ (Ev.now _)
  intro k
  simp only [Option.bind_some]
  rw [four_nums, if_pos (by rw [strB_size, four_length]; omega)]
  rfl

theorem wrap4 {n : Nat} (h : n ≤ 4611686018427387904) : wrap64 ((n : Int) - 4) = (n : Int) - 4 := wrap_id (by omega) (by omega)

theorem open_ev {s : ByteArray} (hs : s.size ≤ 4611686018427387904) : Ev (fun k => crc_Open.f k s)
    (if s.size < 4 then (⟨#[]⟩, 10) else if seal_ (s.data.toList.take (s.size - 4)) = s.data.toList then (strB (s.data.toList.take (s.size - 4)), 0) else (⟨#[]⟩, 13)) := by
  unfold crc_Open.f
  by_cases h4 : s.size < 4
  · rw [if_pos h4]
    exact Ev.congr (fun k => by rw [if_pos (by omega)]) (Ev.now _)
  · rw [if_neg h4]
    have e : s.extract 0 (wrap64 ((s.size : Int) - 4)).toNat = strB (s.data.toList.take (s.size - 4)) := by
      rw [wrap4 hs, show ((s.size : Int) - 4).toNat = s.size - 4 by omega]
      apply bytes_ext
      rw [extract_list, strB_list, List.drop_zero]
    have h := seal_ev (s := strB (s.data.toList.take (s.size - 4))) (by rw [strB_size, List.length_take]; omega)
    refine Ev.congr (f := fun k => (crc_Seal.f k (strB (s.data.toList.take (s.size - 4)))).bind fun t => if t.toList = s.toList then some (strB (s.data.toList.take (s.size - 4)), (0 : Int)) else some ((⟨#[]⟩ : ByteArray), 13)) ?_ ?_
    · intro k
      rw [if_neg (by omega), if_pos (by rw [wrap4 hs]; omega), if_pos (by rw [wrap4 hs]; omega), e]
    · refine Ev.bind h ?_
      refine Ev.congr (f := fun _ => some (if seal_ (s.data.toList.take (s.size - 4)) = s.data.toList then (strB (s.data.toList.take (s.size - 4)), (0 : Int)) else ((⟨#[]⟩ : ByteArray), 13))) ?_ (Ev.now _)
      intro k
      rw [ByteArray.toList_eq, ByteArray.toList_eq]
      unfold sealB
      rw [strB_list, strB_list]
      split <;> rfl

theorem refstep (x : R) : (if Int.tmod (x.toNat : Int) 2 = 1 then Go.bits .xor .u32 ((Int.tdiv (x.toNat : Int) 2) % 4294967296) 2197175160 else (Int.tdiv (x.toNat : Int) 2) % 4294967296) = ((S x).toNat : Int) := by
  have hx : x.toNat < 4294967296 := x.isLt
  have e1 : (Int.tdiv (x.toNat : Int) 2) % (4294967296 : Int) = ((x >>> 1).toNat : Int) := by
    rw [BitVec.toNat_ushiftRight, Nat.shiftRight_eq_div_pow, Int.tdiv_eq_ediv_of_nonneg (by omega)]; omega
  have e2 : Int.tmod (x.toNat : Int) 2 = ((x.toNat % 2 : Nat) : Int) := by rw [Int.tmod_eq_emod_of_nonneg (by omega)]; omega
  have e3 : (2197175160 : Int) = (poly.toNat : Int) := by decide
  have e4 : x.getLsbD 0 = decide (x.toNat % 2 = 1) := by
    show x.toNat.testBit 0 = _
    rw [Nat.testBit_zero]
  rw [S_eq, e1, e2, e3, e4]
  by_cases h : x.toNat % 2 = 1
  · rw [if_pos (by omega), bx]; simp [h]
  · rw [if_neg (by omega)]; simp [h]

theorem refmore_l1 (s : ByteArray) (j : Nat) (r : Int) (n : Nat) : ∀ (x : R) (i : Int), 8 - i = n → 0 ≤ i → i ≤ 8 →
    Ev (fun k => lighterref02_More.l0 k s ((it S n x).toNat : Int) (wrap64 ((j : Int) + 1))) r → Ev (fun k => lighterref02_More.l1 k s (x.toNat : Int) (j : Int) i) r := by
  induction n with
  | zero =>
    intro x i hi h0 h8 h
    refine Ev.step ?_ h
    intro k
    simp only [lighterref02_More.l1]
    rw [if_neg (by omega)]
    rfl
  | succ n ih =>
    intro x i hi h0 h8 h
    refine Ev.step ?_ (ih (S x) (i + 1) (by omega) (by omega) (by omega) h)
    intro k
    simp only [lighterref02_More.l1]
    rw [if_pos (by omega), wrap_id (by omega) (by omega), ← refstep x]
    split <;> rfl

theorem refmore_l0 {s : ByteArray} (hs : s.size ≤ 4611686018427387904) (d : Nat) : ∀ (i : Nat) (x : R), s.size - i = d → i ≤ s.size →
    Ev (fun k => lighterref02_More.l0 k s (x.toNat : Int) (i : Int)) ((~~~ run x (s.data.toList.drop i)).toNat : Int) := by
  induction d with
  | zero =>
    intro i x hd hi
    have : s.data.toList.drop i = [] := by rw [List.drop_eq_nil_iff, data_length]; omega
    rw [this]
    refine Ev.step (f := fun _ => some ((~~~ x).toNat : Int)) ?_ (Ev.now _)
    intro k
    simp only [lighterref02_More.l0]
    have hx : x.toNat < 4294967296 := x.isLt
    rw [if_neg (by omega), BitVec.toNat_not]
    congr 1
    omega
  | succ d ih =>
    intro i x hd hi
    obtain ⟨c, hb, hdrop⟩ := bt_list s i (by omega)
    have hc : c.toNat < 256 := c.toBitVec.isLt
    refine Ev.step (f := fun k => lighterref02_More.l1 k s ((x ^^^ w8 c).toNat : Int) (i : Int) 0) ?_ ?_
    · intro k
      simp only [lighterref02_More.l0]
      rw [if_pos (by omega), if_pos (by omega), hb, show ((c.toNat : Int)) % 4294967296 = ((w8 c).toNat : Int) by rw [w8_toNat]; omega, bx]
    · refine refmore_l1 s i _ 8 (x ^^^ w8 c) 0 (by omega) (by omega) (by omega) ?_
      rw [hdrop, run_cons, wrap_id (by omega) (by omega), show ((i : Int) + 1) = ((i + 1 : Nat) : Int) by omega]
      exact ih (i + 1) (Bt x c) (by omega) (by omega)

theorem refmore_ev (c : R) {s : ByteArray} (hs : s.size ≤ 4611686018427387904) : Ev (fun k => lighterref02_More.f k (c.toNat : Int) s) ((more c s.data.toList).toNat : Int) := by
  unfold lighterref02_More.f
  have hc : c.toNat < 4294967296 := c.isLt
  rw [show ((4294967295 - (c.toNat : Int)) % 4294967296) = ((~~~ c).toNat : Int) by rw [BitVec.toNat_not]; omega]
  have := refmore_l0 hs s.size 0 (~~~ c) (by omega) (by omega)
  rw [List.drop_zero] at this
  exact this

theorem four_is (x : R) (k : Nat) (hk : 5 ≤ k) : lighterref02_Four.f k (x.toNat : Int) = some (strB (four x)) := by
  have hx : x.toNat < 4294967296 := x.isLt
  obtain ⟨k, rfl⟩ : ∃ m, k = m + 5 := ⟨k - 5, by omega⟩
  have td : ∀ n : Nat, n < 4294967296 → (Int.tdiv (n : Int) 256) % 4294967296 = ((n / 256 : Nat) : Int) := by
    intro n hn
    rw [Int.tdiv_eq_ediv_of_nonneg (by omega)]; omega
  have tm : ∀ n : Nat, (Int.tmod (n : Int) 256) % 256 = ((n % 256 : Nat) : Int) := by
    intro n
    rw [Int.tmod_eq_emod_of_nonneg (by omega)]; omega
  unfold lighterref02_Four.f
  simp only [lighterref02_Four.l0]
  rw [if_pos (by omega), if_pos (by simp), td _ hx, tm, wrap_id (x := 0 + 1) (by omega) (by omega), if_pos (by omega), if_pos (by simp), td _ (by omega), tm, wrap_id (x := 0 + 1 + 1) (by omega) (by omega)]
  rw [if_pos (by omega), if_pos (by simp), td _ (by omega), tm, wrap_id (x := 0 + 1 + 1 + 1) (by omega) (by omega), if_pos (by omega), if_pos (by simp), td _ (by omega), tm, wrap_id (x := 0 + 1 + 1 + 1 + 1) (by omega) (by omega), if_neg (by omega)]
  rw [← four_nums]
  have q0 : ((x.toNat % 256 : Nat) : Int) = (x.toNat : Int) % 256 := by omega
  have q1 : ((x.toNat / 256 % 256 : Nat) : Int) = (x.toNat : Int) / 256 % 256 := by omega
  have q2 : ((x.toNat / 256 / 256 % 256 : Nat) : Int) = (x.toNat : Int) / 65536 % 256 := by omega
  have q3 : ((x.toNat / 256 / 256 / 256 % 256 : Nat) : Int) = (x.toNat : Int) / 16777216 % 256 := by omega
  simp only [List.nil_append, List.cons_append, q0, q1, q2, q3]

theorem refopen_ev {s : ByteArray} (hs : s.size ≤ 4611686018427387904) : Ev (fun k => lighterref02_Open.f k s)
    (if s.size < 4 then (⟨#[]⟩, 10) else if seal_ (s.data.toList.take (s.size - 4)) = s.data.toList then (strB (s.data.toList.take (s.size - 4)), 0) else (⟨#[]⟩, 13)) := by
  unfold lighterref02_Open.f
  by_cases h4 : s.size < 4
  · rw [if_pos h4]
    exact Ev.congr (fun k => by rw [wrap4 hs, if_pos (by omega)]) (Ev.now _)
  · rw [if_neg h4]
    have e : s.extract 0 (wrap64 ((s.size : Int) - 4)).toNat = strB (s.data.toList.take (s.size - 4)) := by
      rw [wrap4 hs, show ((s.size : Int) - 4).toNat = s.size - 4 by omega]
      apply bytes_ext
      rw [extract_list, strB_list, List.drop_zero]
    have e2 : s.extract (wrap64 ((s.size : Int) - 4)).toNat s.size = strB (s.data.toList.drop (s.size - 4)) := by
      rw [wrap4 hs, show ((s.size : Int) - 4).toNat = s.size - 4 by omega]
      apply bytes_ext
      rw [extract_list, strB_list, List.take_of_length_le (by rw [data_length]; omega)]
    have h := refmore_ev 0#32 (s := strB (s.data.toList.take (s.size - 4))) (by rw [strB_size, List.length_take]; omega)
    refine Ev.congr (f := fun k => (lighterref02_More.f k 0 (strB (s.data.toList.take (s.size - 4)))).bind fun t => (lighterref02_Four.f k t).bind fun q => if q.toList = (strB (s.data.toList.drop (s.size - 4))).toList then some (strB (s.data.toList.take (s.size - 4)), (0 : Int)) else some ((⟨#[]⟩ : ByteArray), 13)) ?_ ?_
    · intro k
      rw [if_neg (by rw [wrap4 hs]; omega), if_pos (by rw [wrap4 hs]; omega), if_pos (by rw [wrap4 hs]; omega), e, e2]
    · refine Ev.bind h ?_
      refine Ev.bind (a := strB (four (more 0#32 (strB (s.data.toList.take (s.size - 4))).data.toList))) ⟨5, fun k hk => four_is _ k hk⟩ ?_
      refine Ev.congr (f := fun _ => some (if seal_ (s.data.toList.take (s.size - 4)) = s.data.toList then (strB (s.data.toList.take (s.size - 4)), (0 : Int)) else ((⟨#[]⟩ : ByteArray), 13))) ?_ (Ev.now _)
      intro k
      rw [ByteArray.toList_eq, ByteArray.toList_eq, strB_list, strB_list, strB_list]
      have iff : (four (more 0#32 (s.data.toList.take (s.size - 4))) = s.data.toList.drop (s.size - 4)) ↔ seal_ (s.data.toList.take (s.size - 4)) = s.data.toList := by
        unfold seal_
        constructor
        · intro h; rw [h, List.take_append_drop]
        · intro h
          have h2 : s.data.toList.take (s.size - 4) ++ four (more 0#32 (s.data.toList.take (s.size - 4))) = s.data.toList.take (s.size - 4) ++ s.data.toList.drop (s.size - 4) := by rw [List.take_append_drop]; exact h
          exact List.append_cancel_left h2
      by_cases hq : seal_ (s.data.toList.take (s.size - 4)) = s.data.toList
      · rw [if_pos hq, if_pos (iff.2 hq)]
      · rw [if_neg hq, if_neg (fun h => hq (iff.1 h))]

end Go.Proofs.YtiiokdgbjcnokaaDoor.PA
