/- The matrix's functions, walked: zero, square, and Zeros. Conditions: what each theorem says. -/
import Derived.Test.YtiiokdgbjcnokaaDoorMat
namespace Go.Proofs.YtiiokdgbjcnokaaDoor.PA
open Go.RowKit Go.Proofs.YtiiokdgbjcnokaaDoorW.PrintWords Go.Proofs.YtiiokdgbjcnokaaDoorW.PrintLast Go.Proofs.YtiiokdgbjcnokaaDoorW.PrintMore
open Go.Proofs.YtiiokdgbjcnokaaDoor.CrcMath
def Row32 (w : World) (g k : Nat) (h : R → R) (wr : World) : Prop :=
  ∃ cs : Array Value, cs.size = 32 ∧ wr.heap[g]? = some (.cells cs 57 (0, 0)) ∧ (∀ j, j < k → cs[j]? = some (.int .u32 ((h (1#32 <<< j)).toNat : Int))) ∧ Below w.heap.size w wr
theorem row32_start (w : World) (h : R → R) (cs : Array Value) (hs : cs.size = 32) : Row32 w w.heap.size 0 h (w.alloc (.cells cs 57)) :=
  ⟨cs, hs, blk_new w _, fun j hj => by omega, below_alloc (Below.refl _ _) _⟩
theorem row32_cell {w wr : World} {g k : Nat} {h : R → R} (H : Row32 w g k h wr) (j : Nat) (hj : j < 32) : ∃ v, wr.cell? ⟨g, j, none⟩ = some v := by
  obtain ⟨cs, hs, hb, _, _⟩ := H
  exact ⟨cs[j], (blk_cell hb j).trans (Array.getElem?_eq_getElem (by omega))⟩
theorem row32_frozen {w wr : World} {g k : Nat} {h : R → R} (H : Row32 w g k h wr) (j : Nat) : wr.frozen? ⟨g, j, none⟩ = false := by
  obtain ⟨cs, hs, hb, _, _⟩ := H
  exact blk_frozen hb j
theorem row32_below {w wr w1 : World} {g k : Nat} {h : R → R} (H : Row32 w g k h wr) (hb : Below wr.heap.size wr w1) : Row32 w g k h w1 := by
  obtain ⟨cs, hs, hc, hj, hB⟩ := H
  exact ⟨cs, hs, blk_below hc hb, hj, below_step hB hb⟩
theorem row32_store {w wr : World} {g k : Nat} {h : R → R} (H : Row32 w g k h wr) (hg : w.heap.size ≤ g) (hk : k < 32) (v : Int) (hv : v = ((h (1#32 <<< k)).toNat : Int)) : Row32 w g (k + 1) h (wr.setCell ⟨g, k, none⟩ (.int .u32 v)) := by
  obtain ⟨cs, hs, hc, hj, hB⟩ := H
  refine ⟨cs.setIfInBounds k (.int .u32 v), by simpa using hs, blk_set hc k _, ?_, below_set hB hg⟩
  intro j hj'
  by_cases e : j = k
  · subst e
    rw [Array.getElem?_setIfInBounds_self_of_lt (by omega), hv]
  · rw [Array.getElem?_setIfInBounds_ne (by omega)]
    exact hj j (by omega)
theorem row32_mat {w wr : World} {g : Nat} {h : R → R} (H : Row32 w g 32 h wr) : Mat h g wr := by
  obtain ⟨cs, hs, hc, hj, hB⟩ := H
  exact fun i hi => (blk_cell hc i).trans (hj i hi)

theorem shl_one (k : Nat) (hk : k < 32) : ((1#32 <<< k : R).toNat : Int) = ((2 ^ k : Nat) : Int) := by rw [one_shift k hk]

theorem byted_zero (x : R) : crc_byted.f 9 (x.toNat : Int) 0 = some ((Z x).toNat : Int) := by
  have h := byted_is x 0 9 (by omega)
  have e : Bt x 0 = Z x := by unfold Bt Z; rw [w8_zero, BitVec.xor_zero]
  rw [e] at h
  exact h
theorem pow_shift (k : Nat) (hk : k < 32) : (2 : Int) ^ k % 4294967296 = ((1#32 <<< k : R).toNat : Int) := by
  have h : 2 ^ k < 2 ^ 32 := Nat.pow_lt_pow_right (by decide) hk
  rw [one_shift k hk]
  have e : ((2 ^ k : Nat) : Int) = (2 : Int) ^ k := by rw [Int.natCast_pow]; rfl
  rw [← e]
  have h2 : 2 ^ k < 4294967296 := h
  clear e h
  generalize 2 ^ k = q at h2 ⊢
  omega

set_option maxHeartbeats 1000000 in
theorem zero_calls (w : World)  :
    Calls Tryd.prog 26 #[] w fun e w' => ∃ g : Nat, e = .returned (.pointer (some ⟨g, 0, none⟩)) ∧ Mat Z g w' ∧ Below w.heap.size w w' := by
  go_enter Tryd.func26, Tryd.ntmps26
  go_wp2
  go_loopw [2, 3] (fun _ v3 wr => ∃ k : Nat, k ≤ 32 ∧ v3 = .int .i64 k ∧ Aside0 (Row32 w w.heap.size k Z wr)) (fun _ v3 _ => 32 - (intOf v3).toNat)
  case atStart => exact ⟨0, by omega, rfl, ⟨row32_start w Z _ rfl⟩⟩
  case round =>
    obtain ⟨k, hk, rfl, H⟩ := hrel
    by_cases hlt : k < 32
    · obtain ⟨v, hc⟩ := row32_cell H.out k hlt
      have hf := row32_frozen H.out k
      go_wp2_with (fail)
      rw [pow_shift k hlt]
      refine (crc_byted.calls 9 _ _ _ _ (byted_zero _)).mono ?_
      rintro e w1 ⟨rfl, hd⟩
      have H1 := Aside0.mk (row32_below H.out hd.below)
      obtain ⟨n1, rfl⟩ := hd
      go_wp2_with (fail)
      go_roundw
      case rel => exact ⟨k + 1, by omega, by go_num, ⟨row32_store H1.out (by omega) hlt _ rfl⟩⟩
      case measure => simp [intOf]; omega
    · obtain rfl : k = 32 := by omega
      go_wp2
      go_ret
      exact ⟨w.heap.size, rfl, row32_mat H.out, H.out.choose_spec.2.2.2⟩

set_option maxHeartbeats 1000000 in
theorem square_calls (f : R → R) (hf : Lin f) (g : Nat) (w : World) (hT : Tab w) (hM : Mat f g w) :
    Calls Tryd.prog 28 #[.pointer (some ⟨g, 0, none⟩)] w fun e w' => ∃ g' : Nat, e = .returned (.pointer (some ⟨g', 0, none⟩)) ∧ Mat (fun x => f (f x)) g' w' ∧ Below w.heap.size w w' := by
  have HT := Aside0.mk hT
  have HM := Aside0.mk hM
  clear hT hM
  go_enter Tryd.func28, Tryd.ntmps28
  go_wp2
  go_loopw [4, 5] (fun _ v3 wr => ∃ k : Nat, k ≤ 32 ∧ v3 = .int .i64 k ∧ Aside0 (Row32 w w.heap.size k (fun x => f (f x)) wr)) (fun _ v3 _ => 32 - (intOf v3).toNat)
  case atStart => exact ⟨0, by omega, rfl, ⟨row32_start w (fun x => f (f x)) _ rfl⟩⟩
  case round =>
    obtain ⟨k, hk, rfl, H⟩ := hrel
    have HB := Aside0.mk (H.out.choose_spec.2.2.2)
    by_cases hlt : k < 32
    · obtain ⟨v, hc⟩ := row32_cell H.out k hlt
      have hfz := row32_frozen H.out k
      have hm := HM.out.below HB.out k hlt
      go_wp2_with (fail)
      refine (do_calls f hf g _ _ (HT.out.below HB.out) (HM.out.below HB.out)).mono ?_
      rintro e w1 ⟨rfl, hd⟩
      have H1 := Aside0.mk (row32_below H.out hd.below)
      obtain ⟨n1, rfl⟩ := hd
      go_wp2_with (fail)
      go_roundw
      case rel => exact ⟨k + 1, by omega, by go_num, ⟨row32_store H1.out (by omega) hlt _ rfl⟩⟩
      case measure => simp [intOf]; omega
    · obtain rfl : k = 32 := by omega
      go_wp2
      go_ret
      exact ⟨w.heap.size, rfl, row32_mat H.out, HB.out⟩

theorem and_one (z : Int) (h0 : 0 ≤ z) (h1 : z ≤ 9223372036854775807) : bits .and .i64 z 1 = z % 2 := by
  have := bits_mask .i64 63 (by decide) (fun n a b => by rw [IntKind.wrap_i64]; omega) 1 (by decide) z h0 (by omega)
  simpa using this

/-- The check sum with bytes 0 behind. -/
def zerosR (x : R) (n : Int) : R := ~~~ it Z n.toNat (~~~ x)

set_option maxHeartbeats 2000000 in
theorem zeros_calls (x : R) (n : Int) (hn : n ≤ 9223372036854775807) (w : World) (hT : Tab w) :
    Calls Tryd.prog 19 #[.int .u32 (x.toNat : Int), .int .i64 n] w fun e w' => e = .returned (.int .u32 ((zerosR x n).toNat : Int)) ∧ Below w.heap.size w w' := by
  have HT := Aside0.mk hT
  clear hT
  have hnot := bnot x
  obtain ⟨y0, hy0⟩ : ∃ y0 : R, ~~~ x = y0 := ⟨_, rfl⟩
  rw [hy0] at hnot
  have HY0 := Aside0.mk hy0
  clear hy0
  go_enter Tryd.func19, Tryd.ntmps19
  go_wp2_with (fail)
  refine (zero_calls _).mono ?_
  rintro e w1 ⟨g, rfl, hm, hb⟩
  have HM := Aside0.mk hm
  have HB := Aside0.mk hb
  clear hm hb
  go_wp2_with (fail)
  clear hnot
  go_loopw [1, 5, 6] (fun v1 v5 v6 wr => ∃ (z : Int) (y : R) (f : R → R) (g' : Nat), z ≤ 9223372036854775807 ∧ v1 = .int .i64 z ∧ v5 = .int .u32 (y.toNat : Int) ∧ v6 = .pointer (some ⟨g', 0, none⟩) ∧ Aside0 (Lin f ∧ Mat f g' wr ∧ it f z.toNat y = it Z n.toNat y0 ∧ Below w.heap.size w wr)) (fun v1 _ _ _ => (intOf v1).toNat)
  case atStart => exact ⟨n, y0, Z, g, hn, rfl, rfl, rfl, ⟨Z_lin, HM.out, rfl, HB.out⟩⟩
  case round =>
    obtain ⟨z, y, f, g', hz, rfl, rfl, rfl, H⟩ := hrel
    clear HM HB
    by_cases hpos : 0 < z
    · have HTw := Aside0.mk (HT.out.below H.out.2.2.2)
      by_cases hodd : z % 2 = 1
      · have ha : bits .and .i64 z 1 = 1 := by rw [and_one z (by omega) hz, hodd]
        have HO := Aside0.mk hodd
        clear hodd
        go_wp2_with (fail)
        refine (do_calls f H.out.1 g' y _ HTw.out H.out.2.1).mono ?_
        rintro e w2 ⟨rfl, hd⟩
        have HM := Aside0.mk (H.out.2.1.below hd.below)
        have HTw := Aside0.mk (HTw.out.below hd.below)
        have HB := Aside0.mk (below_step H.out.2.2.2 hd.below)
        obtain ⟨n2, rfl⟩ := hd
        go_wp2_with (fail)
        refine (square_calls f H.out.1 g' _ HTw.out HM.out).mono ?_
        rintro e w3 ⟨g2, rfl, hm3, hb3⟩
        have HM3 := Aside0.mk hm3
        have HB3 := Aside0.mk (below_step HB.out hb3)
        clear hm3 hb3
        go_wp2_with (fail)
        go_roundw
        case rel =>
          refine ⟨z / 2, f y, fun q => f (f q), g2, by omega, by first | rfl | simp, rfl, rfl, ⟨H.out.1.comp H.out.1, HM3.out, ?_, HB3.out⟩⟩
          rw [it_two, ← H.out.2.2.1, show z.toNat = 2 * (z / 2).toNat + 1 by have := HO.out; omega]
          rfl
        case measure => simp [intOf]; omega
      · have ha : bits .and .i64 z 1 = 0 := by rw [and_one z (by omega) hz]; omega
        have HO := Aside0.mk hodd
        clear hodd
        go_wp2_with (fail)
        refine (square_calls f H.out.1 g' _ HTw.out H.out.2.1).mono ?_
        rintro e w3 ⟨g2, rfl, hm3, hb3⟩
        have HM3 := Aside0.mk hm3
        have HB3 := Aside0.mk (below_step H.out.2.2.2 hb3)
        clear hm3 hb3
        go_wp2_with (fail)
        go_roundw
        case rel =>
          refine ⟨z / 2, y, fun q => f (f q), g2, by omega, by first | rfl | simp, rfl, rfl, ⟨H.out.1.comp H.out.1, HM3.out, ?_, HB3.out⟩⟩
          rw [it_two, ← H.out.2.2.1, show z.toNat = 2 * (z / 2).toNat by have := HO.out; omega]
        case measure => simp [intOf]; omega
    · have hy : y = it Z n.toNat y0 := by
        rw [← H.out.2.2.1, show z.toNat = 0 by omega]
        rfl
      have HB := Aside0.mk H.out.2.2.2
      have HY := Aside0.mk hy
      have hnot := bnot y
      obtain ⟨y1, hy1⟩ : ∃ y1 : R, ~~~ y = y1 := ⟨_, rfl⟩
      rw [hy1] at hnot
      have HY1 := Aside0.mk hy1
      have HF : zerosR x n = y1 := by unfold zerosR; rw [HY0.out, ← hy, hy1]
      have HF' := Aside0.mk HF
      clear hy H hy1 HF HY HY1
      go_wp2
      go_ret
      exact ⟨by rw [HF'.out]; rfl, HB.out⟩
end Go.Proofs.YtiiokdgbjcnokaaDoor.PA
