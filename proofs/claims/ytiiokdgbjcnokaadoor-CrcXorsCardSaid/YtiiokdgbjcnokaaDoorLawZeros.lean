/- The walk of CrcZeros. Condition: the table lies where the text laid it. -/
import Derived.Test.YtiiokdgbjcnokaaDoorLaws1
namespace Go.Proofs.YtiiokdgbjcnokaaDoor.PA
open Go.RowKit Go.Proofs.YtiiokdgbjcnokaaDoorW.PrintWords Go.Proofs.YtiiokdgbjcnokaaDoorW.PrintLast Go.Proofs.YtiiokdgbjcnokaaDoorW.PrintMore
open Go.Proofs.YtiiokdgbjcnokaaDoor.CrcMath
set_option linter.unusedVariables false
set_option linter.unusedSimpArgs false

theorem zerosR_eq (x : R) (n : Nat) : zerosR x (n : Int) = more x (List.replicate n 0) := by
  unfold zerosR more
  rw [run_zeros, Int.toNat_natCast]
theorem zerosR_neg (x : R) (n : Int) (h : n ≤ 0) : zerosR x n = x := by
  unfold zerosR
  rw [show n.toNat = 0 by omega]
  exact not_not x

theorem made_string (W : World) (m : Nat) (hm : m ≤ 2000) : (convert 34 9 (.slice (some ⟨W.heap.size, 0, none⟩) m m)).run Tryd.prog (W.alloc (.cells (madeCells #[.int .u8 0] m) 5)) = .ok (.string (strB (List.replicate m 0))) (W.alloc (.cells (madeCells #[.int .u8 0] m) 5)) := by
  have h := own_string (P := Tryd.prog) Tryd.underlying34 Tryd.underlying5 Tryd.underlying9 (own_made W W.heap.size 5 .u8 m (Nat.le_refl _) (by omega))
  rw [h]
  congr 2
  unfold strOfNums strB
  congr 2
  simp

set_option maxHeartbeats 1000000 in
theorem zeros_mid (x : R) (m : Nat) (hm : m ≤ 2000) (h0 : 0 < m) (w : World) (hT : Tab w) :
    Calls Tryd.prog 4 #[.int .u32 (x.toNat : Int), .int .i64 (m : Int)] w fun e w' => e = .returned (.bool true) ∧ Below w.heap.size w w' := by
  have HT := Aside0.mk hT
  obtain ⟨k1, h1⟩ := (refmore_ev x (s := strB (List.replicate m 0)) (by rw [strB_size, List.length_replicate]; omega)).rounds
  rw [strB_list] at h1
  have hz := zeros_calls x (m : Int) (by omega)
  rw [zerosR_eq] at hz
  have hcv := made_string w m hm
  generalize strB (List.replicate m 0) = s at h1 hcv
  generalize more x (List.replicate m 0) = y at h1 hz
  have hmk := print_make (P := Tryd.prog) 34 5 .u8 1 Tryd.underlying34 info5 (by decide) m (by omega) w
  have A1 := Aside0.mk h1
  have HZ := Aside0.mk hz
  clear hT h1 hz
  go_enter Tryd.func4, Tryd.ntmps4
  go_wp2_with (fail)
  refine (lighterref02_More.calls k1 _ _ _ _ A1.out).mono ?_
  rintro e w2 ⟨rfl, hd⟩
  have HB := Aside0.mk (below_step (below_alloc (Below.refl _ _) _) hd.below)
  clear hd hcv hmk
  go_wp2_with (fail)
  refine (HZ.out _ (HT.out.below HB.out)).mono ?_
  rintro e w3 ⟨rfl, hb⟩
  have HB := Aside0.mk (below_step HB.out hb)
  clear hb
  go_wp2_with (fail)
  refine (awake_calls _ (HT.out.below HB.out)).mono ?_
  rintro e w9 ⟨rfl, hb⟩
  have HB := Aside0.mk (below_step HB.out hb)
  clear hb
  go_wp2_with (fail)
  go_ret
  exact ⟨rfl, HB.out⟩

set_option maxHeartbeats 1000000 in
theorem zeros_low (x : R) (n : Int) (h0 : n ≤ 0) (w : World) (hT : Tab w) :
    Calls Tryd.prog 4 #[.int .u32 (x.toNat : Int), .int .i64 n] w fun e w' => e = .returned (.bool true) ∧ Below w.heap.size w w' := by
  have HT := Aside0.mk hT
  have hz := zeros_calls x n (by omega)
  rw [zerosR_neg x n h0] at hz
  have HZ := Aside0.mk hz
  clear hT hz
  go_enter Tryd.func4, Tryd.ntmps4
  go_wp2_with (fail)
  refine (HZ.out _ HT.out).mono ?_
  rintro e w3 ⟨rfl, hb⟩
  have HB := Aside0.mk hb
  clear hb
  go_wp2_with (fail)
  refine (awake_calls _ (HT.out.below HB.out)).mono ?_
  rintro e w9 ⟨rfl, hb⟩
  have HB := Aside0.mk (below_step HB.out hb)
  clear hb
  go_wp2_with (fail)
  go_ret
  exact ⟨rfl, HB.out⟩

set_option maxHeartbeats 1000000 in
theorem zeros_high (x : Int) (n : Int) (h0 : 2000 < n) (w : World) (hT : Tab w) :
    Calls Tryd.prog 4 #[.int .u32 x, .int .i64 n] w fun e w' => e = .returned (.bool true) ∧ Below w.heap.size w w' := by
  have HT := Aside0.mk hT
  clear hT
  go_enter Tryd.func4, Tryd.ntmps4
  go_wp2_with (fail)
  refine (awake_calls _ HT.out).mono ?_
  rintro e w9 ⟨rfl, hb⟩
  have HB := Aside0.mk hb
  clear hb
  go_wp2_with (fail)
  go_ret
  exact ⟨rfl, HB.out⟩

theorem zeros_walk (w : World) (hT : Tab w) (x : Int) (hx0 : 0 ≤ x) (hx1 : x ≤ 4294967295) (n : Int) (hn0 : -9223372036854775808 ≤ n) (hn1 : n ≤ 9223372036854775807) :
    Calls Tryd.prog 4 #[.int .u32 x, .int .i64 n] w fun e w' => e = .returned (.bool true) ∧ Below w.heap.size w w' := by
  by_cases h : 2000 < n
  · exact zeros_high x n h w hT
  · obtain ⟨r, rfl⟩ := toReg x hx0 (by omega)
    by_cases h0 : n ≤ 0
    · exact zeros_low r n h0 w hT
    · obtain ⟨m, rfl⟩ : ∃ m : Nat, n = (m : Int) := ⟨n.toNat, by omega⟩
      exact zeros_mid r m (by omega) (by omega) w hT
end Go.Proofs.YtiiokdgbjcnokaaDoor.PA
