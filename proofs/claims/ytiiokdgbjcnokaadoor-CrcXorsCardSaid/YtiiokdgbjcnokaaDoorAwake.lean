/- The examples, walked. Condition: the table lies where the text laid it. -/
import Derived.Test.YtiiokdgbjcnokaaDoorZer
import Derived.Test.YtiiokdgbjcnokaaDoorKey
namespace Go.Proofs.YtiiokdgbjcnokaaDoor.PA
open Go.RowKit Go.Proofs.YtiiokdgbjcnokaaDoorW.PrintWords Go.Proofs.YtiiokdgbjcnokaaDoorW.PrintLast Go.Proofs.YtiiokdgbjcnokaaDoorW.PrintMore
open Go.Proofs.YtiiokdgbjcnokaaDoor.CrcMath
set_option linter.unusedVariables false
set_option linter.unusedSimpArgs false

theorem C_strs (W : World) (xs : List ByteArray) (hm : xs.length ≤ 9223372036854775807) : Kd.C Kd.string (W.alloc (.cells (encs Value.string xs).toArray 9)) (some ⟨W.heap.size, 0, none⟩) xs.length xs :=
  Kd.C_of_reads (d := ByteArray.empty) (h1 := fun _ => rfl) (own_reads_of' (own_lit_of (enc := Value.string) W W.heap.size 9 xs (Nat.le_refl _) hm))
theorem C_none (W : World) : Kd.C Kd.string W none ([] : List ByteArray).length [] := Kd.C_of_reads (d := ByteArray.empty) (h1 := fun _ => rfl) (ReadsOf.nil _ _ _)

theorem sum_example : more 0#32 (bytes [(⟨#[49, 50, 51, 52]⟩ : ByteArray), ⟨#[53, 54, 55, 56, 57]⟩]) = 3808858755#32 := by decide +kernel
theorem zeros_example : zerosR 0#32 32 = 2324772522#32 := by decide +kernel

set_option maxHeartbeats 1000000 in
theorem awake_calls (w : World) (hT : Tab w) : Calls Tryd.prog 12 #[] w fun e w' => e = .returned (.bool true) ∧ Below w.heap.size w w' := by
  have HT := Aside0.mk hT
  clear hT
  obtain ⟨k1, h1⟩ := (open_ev (s := ⟨#[97, 98, 99]⟩) (by decide)).rounds
  obtain ⟨k2, h2⟩ := (sum_ev (l := [(⟨#[49, 50, 51, 52]⟩ : ByteArray), ⟨#[53, 54, 55, 56, 57]⟩]) ⟨by decide, by decide⟩).rounds
  rw [sum_example] at h2
  rw [if_pos (by decide)] at h1
  have A1 := Aside0.mk h1
  have A2 := Aside0.mk h2
  clear h1 h2
  go_enter Tryd.func12, Tryd.ntmps12
  go_wp2_with (fail)
  refine (crc_Open.calls k1 _ _ _ _ A1.out).mono ?_
  rintro e w1 ⟨rfl, hb1⟩
  have HB := Aside0.mk hb1
  clear hb1
  go_wp2_with (fail)
  refine (crc_Sum.calls k2 _ _ _ _ _ (C_strs _ [(⟨#[49, 50, 51, 52]⟩ : ByteArray), ⟨#[53, 54, 55, 56, 57]⟩] (by decide)) (by decide) A2.out).mono ?_
  rintro e w2 ⟨rfl, hd2⟩
  have HB := Aside0.mk (below_step (below_alloc HB.out _) hd2.below)
  clear hd2
  go_wp2_with (fail)
  refine (zeros_calls 0#32 32 (by decide) _ (HT.out.below HB.out)).mono ?_
  rw [zeros_example]
  rintro e w3 ⟨rfl, hb3⟩
  have HB := Aside0.mk (below_step HB.out hb3)
  clear hb3
  go_wp2_with (fail)
  refine (key_calls none 0 [] _ ⟨by decide, by simp⟩ (C_none _) (by decide)).mono ?_
  rintro e w4 ⟨rfl, hb4⟩
  have HB := Aside0.mk (below_step HB.out hb4)
  clear hb4
  go_wp2_with (fail)
  go_ret
  exact ⟨rfl, HB.out⟩
end Go.Proofs.YtiiokdgbjcnokaaDoor.PA
