/- The matrix's functions, walked: TrailingZeros32 (its table as laid), do. Conditions: what each theorem says. -/
import Derived.Test.YtiiokdgbjcnokaaDoorFuns2
import Derived.Test.YtiiokdgbjcnokaaDoorBits
import Derived.Outline
namespace Go.Proofs.YtiiokdgbjcnokaaDoor.PA
open Go.RowKit Go.Proofs.YtiiokdgbjcnokaaDoorW.PrintWords Go.Proofs.YtiiokdgbjcnokaaDoorW.PrintLast Go.Proofs.YtiiokdgbjcnokaaDoorW.PrintMore
open Go.Proofs.YtiiokdgbjcnokaaDoor.CrcMath
set_option linter.unusedVariables false
set_option linter.unusedSimpArgs false

/-- The table of the multiplication lies where the program's text laid it. -/
def Tab (w : World) : Prop := ∀ i, i < 32 → w.cell? ⟨0, i, none⟩ = some (.int .u8 (deB.getD i 0))
theorem Tab.below {w w' : World} (h : Tab w) (hb : Below w.heap.size w w') : Tab w' := fun i hi => pw_cell_below hb (h i hi)

set_option maxHeartbeats 400000 in
theorem tz_walk (x p : Int) (j : Nat) (i : Int) (w : World) (h0 : (x == 0) = false) (h1 : bits .and .u32 x ((-x) % 4294967296) = p) (h2 : p * 125613361 % 4294967296 / 134217728 = (j : Int)) (hj : j < 32) (hc : w.cell? ⟨0, j, none⟩ = some (.int .u8 i)) (hi : 0 ≤ i) (hi2 : i < 32) :
    Calls Tryd.prog 30 #[.int .u32 x] w fun e w' => e = .returned (.int .i64 i) ∧ w' = w := by
  go_enter Tryd.func30, Tryd.ntmps30
  go_wp2_with (fail)
  go_ret
  exact ⟨rfl, rfl⟩

theorem neg_toNat (y : R) : (-(y.toNat : Int)) % 4294967296 = ((-y).toNat : Int) := by
  have h : y.toNat < 4294967296 := y.isLt
  rw [BitVec.toNat_neg]
  omega

theorem tz_calls (y : R) (i : Nat) (hi : i < 32) (hy : y ≠ 0#32) (hl : y &&& -y = 1#32 <<< i) (w : World) (hT : Tab w) :
    Calls Tryd.prog 30 #[.int .u32 (y.toNat : Int)] w fun e w' => e = .returned (.int .i64 (i : Int)) ∧ w' = w := by
  have h0 : ((y.toNat : Int) == 0) = false := by
    rw [beq_eq_false_iff_ne]
    intro e
    exact hy (BitVec.eq_of_toNat_eq (by simpa using e))
  obtain ⟨t1, t2⟩ := deB_tells ⟨i, hi⟩
  simp only at t1 t2
  obtain ⟨q, hq⟩ : ∃ q : Nat, q = 2 ^ i := ⟨_, rfl⟩
  rw [← hq] at t1 t2
  refine tz_walk (y.toNat : Int) (q : Int) _ (i : Int) w h0 ?_ ?_ t2 ?_ (by omega) (by omega)
  · rw [neg_toNat, ba, hl, one_shift i hi, hq]
  · rw [Int.natCast_ediv, Int.natCast_emod, Int.natCast_mul]; rfl
  · rw [hT _ t2, t1]

/-- A matrix in memory: of each bit of a register what f makes of it. -/
def Mat (f : R → R) (g : Nat) (w : World) : Prop := ∀ i, i < 32 → w.cell? ⟨g, i, none⟩ = some (.int .u32 ((f (1#32 <<< i)).toNat : Int))
theorem Mat.below {f : R → R} {g : Nat} {w w' : World} (h : Mat f g w) (hb : Below w.heap.size w w') : Mat f g w' := fun i hi => pw_cell_below hb (h i hi)

theorem and_pred (y : R) (hy : y ≠ 0#32) : bits .and .u32 (y.toNat : Int) ((y.toNat : Int) - 1) = ((y &&& (y - 1#32)).toNat : Int) := by
  have h0 : 0 < y.toNat := by
    apply Nat.pos_of_ne_zero
    intro e
    exact hy (BitVec.eq_of_toNat_eq (by simpa using e))
  have hy' : y.toNat < 4294967296 := y.isLt
  have e : (y.toNat : Int) - 1 = ((y - 1#32).toNat : Int) := by
    rw [BitVec.toNat_sub]
    have : (1#32 : R).toNat = 1 := by decide
    rw [this]
    omega
  rw [e, ba]

set_option maxHeartbeats 1000000 in
theorem do_calls (f : R → R) (hf : Lin f) (g : Nat) (x : R) (w : World) (hT : Tab w) (hM : Mat f g w) :
    Calls Tryd.prog 27 #[.pointer (some ⟨g, 0, none⟩), .int .u32 (x.toNat : Int)] w fun e w' => e = .returned (.int .u32 ((f x).toNat : Int)) ∧ Drawn0 w w' := by
  have HT := Aside0.mk hT
  have HM := Aside0.mk hM
  clear hT hM
  go_enter Tryd.func27, Tryd.ntmps27
  go_wp2
  go_loopw [1, 5] (fun v1 v5 wr => ∃ y o : R, v1 = .int .u32 (y.toNat : Int) ∧ v5 = .int .u32 (o.toNat : Int) ∧ Aside0 (o ^^^ f y = f x) ∧ Drawn0 w wr) (fun v1 _ _ => (intOf v1).toNat)
  case atStart => exact ⟨x, 0#32, rfl, rfl, ⟨by rw [BitVec.zero_xor]⟩, Drawn0.refl _⟩
  case round =>
    obtain ⟨y, o, rfl, rfl, hinv, hd⟩ := hrel
    by_cases hy : y = 0#32
    · have h0 : ((y.toNat : Int) != 0) = false := by rw [hy]; decide
      have he : o = f x := by
        have := hinv.out
        rw [hy, hf.zero, BitVec.xor_zero] at this
        exact this
      have HE := Aside0.mk he
      clear hy he hinv
      go_wp2
      go_ret
      exact ⟨by rw [HE.out]; rfl, hd⟩
    · have h0 : ((y.toNat : Int) != 0) = true := by
        rw [bne_iff_ne]
        intro e
        exact hy (BitVec.eq_of_toNat_eq (by simpa using e))
      obtain ⟨i, hi, hlow, hsplit, hless⟩ := low_bit y hy
      have HY := Aside0.mk hy
      have HL := Aside0.mk hlow
      have HS := Aside0.mk hsplit
      clear hlow hsplit
      have HT' := Aside0.mk (HT.out.below hd.below)
      have HM' := Aside0.mk (HM.out.below hd.below)
      have hcell := HM'.out i hi
      have hpos : 1 ≤ (y.toNat : Int) := by
        have : y.toNat ≠ 0 := fun e => hy (BitVec.eq_of_toNat_eq (by simpa using e))
        omega
      have hlt : (y.toNat : Int) < 4294967296 := by have := y.isLt; omega
      have hxor := bx o (f (1#32 <<< i))
      have hand := and_pred y hy
      clear hy
      go_wp2
      go_quiet ((go_at_call 30; exact Calls.quiet_of_same (tz_calls y i hi HY.out HL.out _ (HT'.out.below (by first | exact Below.refl _ _ | exact below_drew (Below.refl _ _) | exact pw_below_drewN (Below.refl _ _) _)))))
      go_wp2
      go_roundw
      case rel =>
        refine ⟨y &&& (y - 1#32), o ^^^ f (1#32 <<< i), rfl, rfl, ⟨?_⟩, by first | exact hd | exact hd.step _⟩
        have h1 := hinv.out
        have h2 := HS.out
        have h3 : f y = f (y &&& (y - 1#32)) ^^^ f (1#32 <<< i) := by rw [← hf, ← h2]
        rw [BitVec.xor_assoc, BitVec.xor_comm (f (1#32 <<< i)), ← h3, h1]
      case measure =>
        show (((y &&& (y - 1#32)).toNat : Int)).toNat < ((y.toNat : Int)).toNat
        rw [Int.toNat_natCast, Int.toNat_natCast]
        exact hless

end Go.Proofs.YtiiokdgbjcnokaaDoor.PA
