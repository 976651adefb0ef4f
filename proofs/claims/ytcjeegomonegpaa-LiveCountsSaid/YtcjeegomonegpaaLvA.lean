/- The chapter's examples: awake answers true. Conditions: what each theorem says. -/
import Derived.Test.YtcjeegomonegpaaLv9
namespace Go.Proofs.Ytcjeegomonegpaa.PLivePlays
open Go.RowKit Go.Maps Go.Sort Go.Proofs.YtcjeegomonegpaaW.PrintWords Go.Proofs.YtcjeegomonegpaaW.PrintLast Go.Proofs.YtcjeegomonegpaaW.PrintMore
set_option linter.unusedVariables false
set_option linter.unusedSimpArgs false
namespace Wake
abbrev r1 : S23 := ⟨1, 10, 3⟩
abbrev r2 : S23 := ⟨2, 4, 4⟩
abbrev r3 : S23 := ⟨3, 6, 1⟩
instance : DecidableEq S23 := fun x y => decidable_of_iff (x.f0 = y.f0 ∧ x.f1 = y.f1 ∧ x.f2 = y.f2) (by cases x; cases y; simp)
def Three (x : S23) : Prop := x = r1 ∨ x = r2 ∨ x = r3
instance (x : S23) : Decidable (Three x) := by unfold Three; infer_instance
def rk (x : S23) : Nat := if x = r3 then 0 else if x = r1 then 1 else 2
theorem ok1 : PartOk r1 := .inr ⟨_, (by kernel_rfl : floatBits .quo .f64 (floatOfInt .f64 3) (floatOfInt .f64 10) = some 4599075939470750515)⟩
theorem ok2 : PartOk r2 := .inr ⟨_, (by kernel_rfl : floatBits .quo .f64 (floatOfInt .f64 4) (floatOfInt .f64 4) = some 4607182418800017408)⟩
theorem ok3 : PartOk r3 := .inr ⟨_, (by kernel_rfl : floatBits .quo .f64 (floatOfInt .f64 1) (floatOfInt .f64 6) = some 4595172819793696085)⟩
theorem ok (x : S23) (h : Three x) : PartOk x := by
  rcases h with rfl | rfl | rfl
  · exact ok1
  · exact ok2
  · exact ok3
theorem lt_rk (x y : S23) (hx : Three x) (hy : Three y) : decide (cmpP x y < 0) = decide (rk x < rk y) := by
  rcases hx with rfl | rfl | rfl <;> rcases hy with rfl | rfl | rfl <;> kernel_rfl
theorem lt_of (x y : S23) : ltOf (cmpQ Three r1) x y = decide (rk (fixR Three r1 x) < rk (fixR Three r1 y)) := by
  unfold ltOf cmpQ
  exact lt_rk _ _ (fixR_ok (.inl rfl) x) (fixR_ok (.inl rfl) y)
theorem swo : SWO (ltOf (cmpQ Three r1)) where
  irrefl x := by rw [lt_of]; simp
  trans x y z h1 h2 := by rw [lt_of] at *; simp at *; omega
  ntrans x y z h1 h2 := by rw [lt_of] at *; simp at *; omega
theorem added : addR [] [r1, r2, r3] = ([r1, r2, r3], 0) := by kernel_rfl
theorem kept : ([r1, r2, r3].filter fun x => !dead 50 x) = [r1, r3] := by kernel_rfl
theorem order {l : List S23} (hp : l.Perm [r1, r3]) (hs : l.Pairwise (fun x y => ltOf (cmpQ Three r1) y x = false)) : l = [r3, r1] := by
  have hlen := hp.length_eq
  match l, hlen with
  | [a, b], _ =>
    have hnd : [a, b].Nodup := hp.nodup_iff.2 (by decide)
    have ha : a ∈ [r1, r3] := hp.subset (by simp)
    have hb : b ∈ [r1, r3] := hp.subset (by simp)
    have hlt : ltOf (cmpQ Three r1) b a = false := (List.pairwise_cons.1 hs).1 b (by simp)
    simp only [List.mem_cons, List.not_mem_nil, or_false] at ha hb
    rcases ha with rfl | rfl <;> rcases hb with rfl | rfl
    · simp at hnd
    · have : ltOf (cmpQ Three r1) r3 r1 = true := by kernel_rfl
      rw [this] at hlt
      cases hlt
    · rfl
    · simp at hnd
theorem part3 : (FloatKind.f64.format.order (partB r1) 4599075939470750515 == some Ordering.eq) = true := by kernel_rfl
end Wake
open Wake
theorem ints_of {w : World} {base : Nat} {v : Value} {a b : Int} (h : w.ownsRow base 3 1 v 2 [.int .i64 a, .int .i64 b]) : ∃ g cap, v = .slice (some ⟨g, 0, none⟩) 2 cap ∧ w.cell? ⟨g, 0, none⟩ = some (.int .i64 a) ∧ w.cell? ⟨g, 1, none⟩ = some (.int .i64 b) := by
  rcases h.2 with ⟨_, h0⟩ | ⟨g, cap, cur, rfl, _, hg, h1, _, h2, h3⟩
  · cases h0
  · refine ⟨g, cap, rfl, ?_, ?_⟩
    · rw [blk_cell hg]
      have := congrArg (fun l => l[0]?) h3
      simp only [List.getElem?_take_of_lt (show 0 < 2 * 1 by omega)] at this
      simpa using this
    · rw [blk_cell hg]
      have := congrArg (fun l => l[1]?) h3
      simp only [List.getElem?_take_of_lt (show 1 < 2 * 1 by omega)] at this
      simpa using this
theorem reads3 {w : World} {g : Nat} (h : w.heap[g]? = some (.cells #[.int .i64 1, .int .i64 10, .int .i64 3, .int .i64 2, .int .i64 4, .int .i64 4, .int .i64 3, .int .i64 6, .int .i64 1] 23 (0, 0))) : Kd.C k23 w (some ⟨g, 0, none⟩) 3 [r1, r2, r3] := by
  have h1 : w.ownsRow 0 23 3 (.slice (some ⟨g, 0, none⟩) 3 3) 3 (flatR [r1, r2, r3]) := ⟨rfl, .inr ⟨g, 3, _, rfl, Nat.zero_le _, h, Nat.le_refl _, by decide, rfl, rfl⟩⟩
  rcases SlR.of_own (l := [r1, r2, r3]) h1 with ⟨h0, _⟩ | ⟨g', o, cap, e, _, _, _, hh⟩
  · cases h0
  · injection e with e1 e2 e3
    injection e1 with e1
    injection e1 with e1 e4
    subst e1; subst e4
    exact reads_of_holds hh (by decide)
set_option maxRecDepth 100000 in
set_option maxHeartbeats 4000000 in
theorem awake_calls (w : World) : Calls Try.prog 13 #[] w fun e w' => e = .returned (.bool true) ∧ Below w.heap.size w w' := by
  have hu28 := Try.underlying28
  have hu23 := Try.underlying23
  have hu3 := Try.underlying3
  have hu30 := Try.underlying30
  have hu40 := Try.underlying40
  have hu47 := Try.underlying47
  go_enter Try.func13, Try.ntmps13
  go_wp2_with (fail)
  refine (new_calls w).mono ?_
  rintro e w1 ⟨g, rfl, hg, hT, hb⟩
  have HG := Aside0.mk hg
  have HT := Aside0.mk hT
  have HB := Aside0.mk hb
  clear hg hT hb
  go_wp2_with (fail)
  have HBn := Aside0.mk (blk_new w1 (.cells #[.int .i64 1, .int .i64 10, .int .i64 3, .int .i64 2, .int .i64 4, .int .i64 4, .int .i64 3, .int .i64 6, .int .i64 1] 23))
  have HB2 := Aside0.mk (below_alloc HB.out (.cells #[.int .i64 1, .int .i64 10, .int .i64 3, .int .i64 2, .int .i64 4, .int .i64 4, .int .i64 3, .int .i64 6, .int .i64 1] 23))
  have HT2 := Aside0.mk (HT.out.below (below_alloc (Below.refl _ _) (.cells #[.int .i64 1, .int .i64 10, .int .i64 3, .int .i64 2, .int .i64 4, .int .i64 4, .int .i64 3, .int .i64 6, .int .i64 1] 23)))
  clear HB HT
  generalize (w1.alloc (.cells #[.int .i64 1, .int .i64 10, .int .i64 3, .int .i64 2, .int .i64 4, .int .i64 4, .int .i64 3, .int .i64 6, .int .i64 1] 23)) = w2 at HBn HB2 HT2 ⊢
  generalize w1.heap.size = gb at HBn ⊢
  have HA : Calls Try.prog 26 #[.pointer (some ⟨g, 0, none⟩), .slice (some ⟨gb, 0, none⟩) 3 3] w2 fun e w' => e = .returned (.int .i64 0) ∧ Tb w' g 3 [r1, r2, r3] ∧ w2.grownBy w' (some g) := by
    have h := add_calls g 0 [] (some ⟨gb, 0, none⟩) 3 [r1, r2, r3] w2 HT2.out (reads3 HBn.out) (by decide)
    rw [added] at h
    exact h
  refine HA.mono ?_
  rintro e w3 ⟨rfl, hT3, hg3⟩
  have HT3 := Aside0.mk hT3
  have HB3 := Aside0.mk (HB2.out.grown hg3 HB2.out.size (fun j hj => by obtain rfl := Option.some.inj hj; exact HG.out))
  clear hT3 hg3 HA HT2 HB2 HBn
  go_wp2_with (fail)
  have HV := Aside0.mk (victims_calls (P := Three) (z := r1) (.inl rfl) ok swo g 3 (by decide) [r1, r2, r3] (by simp) (fun x hx => by simpa [Three] using hx) (by decide) 50 w3 HT3.out)
  refine HV.out.mono ?_
  rintro e w4 ⟨v, l', rfl, hp, hs, hown, hb4⟩
  rw [kept] at hp
  obtain rfl := order hp hs
  have HB4 := Aside0.mk (below_step HB3.out hb4)
  obtain ⟨gv, cv, rfl, c0, c1⟩ := ints_of hown
  have HP := fun W => part_calls r1 ok1 W
  have hp3 := part3
  generalize partB r1 = pb at HP hp3
  clear hp hs hown hb4 HV HT3 HB3
  simp only at HP
  go_wp2_with (fail)
  refine (HP _).mono ?_
  rintro e w5 ⟨rfl, os, rfl⟩
  go_wp2_with (fail)
  go_ret
  exact ⟨rfl, below_step HB4.out (GrowOf.below ⟨0, os, rfl⟩)⟩
end Go.Proofs.Ytcjeegomonegpaa.PLivePlays
