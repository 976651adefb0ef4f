/- The walk of LiveParts. Conditions: what each theorem says. -/
import Derived.Test.YtcjeegomonegpaaLvA
import Derived.Test.YtcjeegomonegpaaFl
namespace Go.Proofs.Ytcjeegomonegpaa.PLivePlays
open Go.RowKit Go.Maps Go.Sort Go.Proofs.YtcjeegomonegpaaW.PrintWords Go.Proofs.YtcjeegomonegpaaW.PrintLast Go.Proofs.YtcjeegomonegpaaW.PrintMore
set_option linter.unusedVariables false
set_option linter.unusedSimpArgs false
theorem plain1 (x : S23) : lighterlaw08_Plain.f 3 [x] = some [⟨x.f0, x.f1, x.f2⟩] := by
  have e : wrap64 (0 + 1) = 1 := by first | rfl | (simp [wrap64]; done) | (unfold wrap64; omega)
  simp only [lighterlaw08_Plain.f, lighterlaw08_Plain.l0, e]
  simp [rd_T23]
theorem refmay_f (x : S23) : lighterref08_May.f x.f0 x.f1 x.f2 = some (decide (MayR x)) := may_f x
theorem reads1 {w : World} {g : Nat} {x : S23} (h : w.heap[g]? = some (.cells #[.int .i64 x.f0, .int .i64 x.f1, .int .i64 x.f2] 23 (0, 0))) : Kd.C k23 w (some ⟨g, 0, none⟩) 1 [x] := by
  have h1 : w.ownsRow 0 23 3 (.slice (some ⟨g, 0, none⟩) 1 1) 1 (flatR [x]) := ⟨rfl, .inr ⟨g, 1, _, rfl, Nat.zero_le _, h, Nat.le_refl _, by decide, rfl, rfl⟩⟩
  rcases SlR.of_own (l := [x]) h1 with ⟨h0, _⟩ | ⟨g', o, cap, e, _, _, _, hh⟩
  · cases h0
  · injection e with e1 e2 e3
    injection e1 with e1
    injection e1 with e1 e4
    subst e1; subst e4
    exact reads_of_holds hh (by simp)
abbrev one : Nat := 4607182418800017408
/-- What is reckoned of a row with sectors. -/
def Facts (x : S23) (r : Nat) (b1 b2 b3 b4 : Bool) : Prop :=
  floatBits .quo .f64 (floatOfInt .f64 x.f2) (floatOfInt .f64 x.f1) = some r ∧ (∃ p s, floatBits .mul .f64 r (floatOfInt .f64 x.f1) = some p ∧ floatBits .add .f64 p 4602678819172646912 = some s ∧ floatToIntVal .f64 s .i64 = some x.f2) ∧
  (FloatKind.f64.format.order r 0 == some .gt) = b1 ∧ (FloatKind.f64.format.order r 0 == some .eq) = b2 ∧ (FloatKind.f64.format.order r one == some .lt) = b3 ∧ (FloatKind.f64.format.order r one == some .eq) = b4 ∧ (x.f2 == 0) = b2 ∧ (x.f2 == x.f1) = b4
theorem zero_quo (T : Nat) (h0 : 0 < T) (h1 : T ≤ 65536) : floatBits .quo .f64 (floatOfInt .f64 0) (floatOfInt .f64 (T : Int)) = some 0 := by
  obtain ⟨b1, b2, b3, b4, b5⟩ := Fl.mI_bounds T h0 h1
  show ((Ieee.double.read (floatOfInt .f64 0)).quotient (52 + 2) (Ieee.double.read (floatOfInt .f64 (T : Int)))).map Ieee.double.write = _
  rw [Fl.read_int T h0 h1, show floatOfInt .f64 0 = 0 by decide, Fl.zero_read]
  unfold Ieee.Datum.quotient
  simp only []
  rw [if_neg (by omega)]
  simp [Ieee.Format.write, Ieee.Format.nearest, Ieee.Format.word]
theorem zero_mul (T : Nat) (h0 : 0 < T) (h1 : T ≤ 65536) : floatBits .mul .f64 0 (floatOfInt .f64 (T : Int)) = some 0 := by
  show ((Ieee.double.read 0).product (Ieee.double.read (floatOfInt .f64 (T : Int)))).map Ieee.double.write = _
  rw [Fl.read_int T h0 h1, Fl.zero_read]
  simp [Ieee.Datum.product, Ieee.Format.write, Ieee.Format.nearest, Ieee.Format.word]
theorem half_add : floatBits .add .f64 0 4602678819172646912 = some 4602678819172646912 := by kernel_rfl
theorem half_int : floatToIntVal .f64 4602678819172646912 .i64 = some ((0 : Nat) : Int) := by kernel_rfl
theorem facts (x : S23) (hm : MayR x) (h : ¬ x.f1 = 0) : ∃ r, Facts x r false true true false ∨ Facts x r true false true false ∨ Facts x r true false false true := by
  obtain ⟨x0, x1, x2⟩ := x
  obtain ⟨-, -, m1, m2, m3, m4⟩ := hm
  simp only at h m1 m2 m3 m4
  obtain ⟨T, rfl⟩ : ∃ T : Nat, x1 = (T : Int) := ⟨x1.toNat, by omega⟩
  obtain ⟨L, rfl⟩ : ∃ L : Nat, x2 = (L : Int) := ⟨x2.toNat, by omega⟩
  by_cases hL : L = 0
  · subst hL
    refine ⟨0, .inl ⟨zero_quo T (by omega) (by omega), ⟨0, 4602678819172646912, zero_mul T (by omega) (by omega), half_add, half_int⟩, by decide, by decide, by decide, by decide, by simp, ?_⟩⟩
    simp only
    rw [beq_eq_false_iff_ne]
    omega
  · obtain ⟨r, p, s, h1, h2, h3, h4, h5, h6, h7⟩ := Fl.part_law L T (by omega) (by omega) (by omega)
    have g0 : FloatKind.f64.format.order r 0 = some .gt := h5
    have z0 : ((L : Int) == 0) = false := by rw [beq_eq_false_iff_ne]; omega
    by_cases hLT : L < T
    · have g1 : FloatKind.f64.format.order r one = some .lt := h6 hLT
      exact ⟨r, .inr (.inl ⟨h1, ⟨p, s, h2, h3, h4⟩, by rw [g0]; decide, by rw [g0]; decide, by rw [g1]; decide, by rw [g1]; decide, z0, by simp only; rw [beq_eq_false_iff_ne]; omega⟩)⟩
    · have e : L = T := by omega
      have hr := h7 e
      subst hr
      exact ⟨_, .inr (.inr ⟨h1, ⟨p, s, h2, h3, h4⟩, by rw [g0]; decide, by rw [g0]; decide, by decide, by decide, z0, by subst e; simp⟩)⟩
theorem ok_of (x : S23) (hm : MayR x) : PartOk x := by
  by_cases h : x.f1 = 0
  · exact .inl h
  · obtain ⟨r, hf | hf | hf⟩ := facts x hm h <;> exact .inr ⟨r, hf.1⟩
theorem partB_of {x : S23} {r : Nat} {b1 b2 b3 b4 : Bool} (h : ¬ x.f1 = 0) (hf : Facts x r b1 b2 b3 b4) : partB x = r := by
  unfold partB
  rw [if_neg h, hf.1]
  rfl
set_option maxRecDepth 100000 in
set_option maxHeartbeats 4000000 in
theorem parts_walk (x : S23) (w : World) : Calls Try.prog 3 #[.agg #[.int .i64 x.f0, .int .i64 x.f1, .int .i64 x.f2]] w fun e w' => e = .returned (.bool true) ∧ Below w.heap.size w w' := by
  have hu28 := Try.underlying28
  have hu26 := Try.underlying26
  have hu25 := Try.underlying25
  have hu23 := Try.underlying23
  have hu3 := Try.underlying3
  have hu30 := Try.underlying30
  have HP := fun W A h => lighterlaw08_Plain.calls 3 A 1 [x] _ W h (by simp) (plain1 x)
  have HM := fun W => lighterref08_May.calls x.f0 x.f1 x.f2 _ W (refmay_f x)
  have HX := Aside0.mk (rfl : x = x)
  have HB := Aside0.mk (below_alloc (below_alloc (Below.refl w.heap.size w) (.cells #[.int .i64 x.f0, .int .i64 x.f1, .int .i64 x.f2] 23)) (.cells #[.int .i64 x.f0, .int .i64 x.f1, .int .i64 x.f2] 23))
  have HG := Aside0.mk (blk_alloc (blk_new w (.cells #[.int .i64 x.f0, .int .i64 x.f1, .int .i64 x.f2] 23)) (.cells #[.int .i64 x.f0, .int .i64 x.f1, .int .i64 x.f2] 23))
  have HN := Aside0.mk (blk_new (w.alloc (.cells #[.int .i64 x.f0, .int .i64 x.f1, .int .i64 x.f2] 23)) (.cells #[.int .i64 x.f0, .int .i64 x.f1, .int .i64 x.f2] 23))
  rw [World.size_alloc] at HN
  have HP := Aside0.mk HP
  have HM := Aside0.mk HM
  go_enter Try.func3, Try.ntmps3
  go_wp2_with (fail)
  generalize ((w.alloc (.cells #[.int .i64 x.f0, .int .i64 x.f1, .int .i64 x.f2] 23)).alloc (.cells #[.int .i64 x.f0, .int .i64 x.f1, .int .i64 x.f2] 23)) = wa at HB HG HN ⊢
  refine (HP.out wa (some ⟨w.heap.size + 1, 0, none⟩) (reads1 HN.out)).mono ?_
  rintro e wb ⟨v, rfl, hR, hb⟩
  obtain ⟨S, k, rfl, hk, hC⟩ := Kd.R_reads hR
  obtain ⟨ad, rfl, d0, d1, d2⟩ := at_T25 hC 0 (by decide) (by simp)
  have ea : ad.add (Int.toNat 0 * 3) = ad := by simp [Addr.add]
  rw [ea] at d0 d1 d2
  have c0 : wb.cell? ad = some (.int .i64 x.f0) := d0
  have c1 : wb.cell? ⟨ad.block, ad.off + 1, none⟩ = some (.int .i64 x.f1) := d1
  have c2 : wb.cell? ⟨ad.block, ad.off + 2, none⟩ = some (.int .i64 x.f2) := d2
  clear d0 d1 d2 ea
  have HB2 := Aside0.mk (below_step HB.out hb)
  have HG2 := Aside0.mk (blk_below HG.out hb)
  clear HB HG HN hb hR hC HP
  go_wp2_with (fail)
  refine (HM.out wb).mono ?_
  rintro e wc ⟨rfl, hb⟩
  have HB := Aside0.mk (below_step HB2.out hb)
  have HG := Aside0.mk (blk_below HG2.out hb)
  clear HB2 HG2 hb c0 c1 c2
  by_cases hm : MayR x
  · have hd : decide (MayR x) = true := by simpa using hm
    rw [hd]
    clear hd
    have HMay := Aside0.mk hm
    have k1 : wc.cell? ⟨w.heap.size, 1, none⟩ = some (.int .i64 x.f1) := (blk_cell HG.out 1).trans rfl
    have k0 : wc.cell? ⟨w.heap.size, 0, none⟩ = some (.int .i64 x.f0) := (blk_cell HG.out 0).trans rfl
    have k2 : wc.cell? ⟨w.heap.size, 2, none⟩ = some (.int .i64 x.f2) := (blk_cell HG.out 2).trans rfl
    clear hm
    go_wp2_with (fail)
    refine (part_calls x (ok_of x HMay.out) wc).mono ?_
    rintro e wd ⟨rfl, os, hwd⟩
    have hb : Below wc.heap.size wc wd := GrowOf.below ⟨0, os, hwd⟩
    clear hwd
    have HB2 := Aside0.mk (below_step HB.out hb)
    have HG2 := Aside0.mk (blk_below HG.out hb)
    clear HB HG hb k0 k1 k2
    have HB := HB2
    have k1 : wd.cell? ⟨w.heap.size, 1, none⟩ = some (.int .i64 x.f1) := (blk_cell HG2.out 1).trans rfl
    have k2 : wd.cell? ⟨w.heap.size, 2, none⟩ = some (.int .i64 x.f2) := (blk_cell HG2.out 2).trans rfl
    clear HB2 HG2
    by_cases h0 : x.f1 = 0
    · have hp : partB x = one := by unfold partB; rw [if_pos h0]
      have h1 : (x.f1 == 0) = true := by rw [h0]; rfl
      have h2 : (FloatKind.f64.format.order one one == some .eq) = true := by decide
      rw [hp]
      clear hp h0
      go_wp2_with (fail)
      refine (awake_calls _).mono ?_
      rintro e wg ⟨rfl, hb⟩
      have HB3 := Aside0.mk (below_step HB.out hb)
      clear hb
      go_wp2_with (fail)
      go_ret
      exact ⟨rfl, HB3.out⟩
    · obtain ⟨r, hf | hf | hf⟩ := facts x HMay.out h0
      · have hp := partB_of h0 hf
        obtain ⟨-, ⟨p, s, q1, q2, q3⟩, b1, b2, b3, b4, b5, b6⟩ := hf
        rw [hp]
        have e1 := fun w => run_float_arith (P := Try.prog) w .mul 30 .f64 _ _ p q1
        have e2 := fun w => run_float_arith (P := Try.prog) w .add 30 .f64 _ _ s q2
        have e3 := fun w => run_convert_float_int (P := Try.prog) w 30 3 .f64 .i64 s x.f2 rfl Try.underlying3 q3
        have h1 : (x.f1 == 0) = false := by rw [beq_eq_false_iff_ne]; exact h0
        clear q1 q2 q3 hp h0
        go_wp2_with (fail)
        refine (awake_calls _).mono ?_
        rintro e wg ⟨rfl, hb⟩
        have HB3 := Aside0.mk (below_step HB.out hb)
        clear hb
        go_wp2_with (fail)
        go_ret
        exact ⟨rfl, HB3.out⟩
      · have hp := partB_of h0 hf
        obtain ⟨-, ⟨p, s, q1, q2, q3⟩, b1, b2, b3, b4, b5, b6⟩ := hf
        rw [hp]
        have e1 := fun w => run_float_arith (P := Try.prog) w .mul 30 .f64 _ _ p q1
        have e2 := fun w => run_float_arith (P := Try.prog) w .add 30 .f64 _ _ s q2
        have e3 := fun w => run_convert_float_int (P := Try.prog) w 30 3 .f64 .i64 s x.f2 rfl Try.underlying3 q3
        have h1 : (x.f1 == 0) = false := by rw [beq_eq_false_iff_ne]; exact h0
        clear q1 q2 q3 hp h0
        go_wp2_with (fail)
        refine (awake_calls _).mono ?_
        rintro e wg ⟨rfl, hb⟩
        have HB3 := Aside0.mk (below_step HB.out hb)
        clear hb
        go_wp2_with (fail)
        go_ret
        exact ⟨rfl, HB3.out⟩
      · have hp := partB_of h0 hf
        obtain ⟨-, ⟨p, s, q1, q2, q3⟩, b1, b2, b3, b4, b5, b6⟩ := hf
        rw [hp]
        have e1 := fun w => run_float_arith (P := Try.prog) w .mul 30 .f64 _ _ p q1
        have e2 := fun w => run_float_arith (P := Try.prog) w .add 30 .f64 _ _ s q2
        have e3 := fun w => run_convert_float_int (P := Try.prog) w 30 3 .f64 .i64 s x.f2 rfl Try.underlying3 q3
        have h1 : (x.f1 == 0) = false := by rw [beq_eq_false_iff_ne]; exact h0
        clear q1 q2 q3 hp h0
        go_wp2_with (fail)
        refine (awake_calls _).mono ?_
        rintro e wg ⟨rfl, hb⟩
        have HB3 := Aside0.mk (below_step HB.out hb)
        clear hb
        go_wp2_with (fail)
        go_ret
        exact ⟨rfl, HB3.out⟩
  · have hd : decide (MayR x) = false := by simpa using hm
    rw [hd]
    clear hd hm
    go_wp2_with (fail)
    refine (awake_calls _).mono ?_
    rintro e wg ⟨rfl, hb⟩
    have HB3 := Aside0.mk (below_step HB.out hb)
    clear hb
    go_wp2_with (fail)
    go_ret
    exact ⟨rfl, HB3.out⟩
end Go.Proofs.Ytcjeegomonegpaa.PLivePlays
