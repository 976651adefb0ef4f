/- YtcjeegomonegpaaCb5: what this claim rests on. Words and contracts are those of the kit's print (print.sh wrote them, those that nothing here reaches are left out); all else is own work. Conditions: what each theorem says. -/
import Derived.Test.YtcjeegomonegpaaCb4
namespace Go.Proofs.Ytcjeegomonegpaa.PLivePlays
open Go.RowKit Go.Proofs.YtcjeegomonegpaaW.PrintWords Go.Proofs.YtcjeegomonegpaaW.PrintLast Go.Proofs.YtcjeegomonegpaaW.PrintMore
attribute [local go_sem] max2_int min2_int max_two min_two max_three min_three max_four min_four   -- for this text's walks alone
set_option linter.unusedVariables false
set_option linter.unusedSimpArgs false
mutual
def lighterref08_Change.j0 : Nat → List (S25) → List (S66) → List (S66) → Bool → Option ((List (S25)) × Int)
  | 0, _, _, _, _ => none
  | k + 1, x0, x1, x2, x23 => if x23 = true then (some (x0, 1)) else ((lighterref08_Count.f k x1).bind fun t205 => ((lighterref08_Count.f k x2).bind fun t208 => (lighterref08_Change.l0 k x0 t205 t208 0)))
def lighterref08_Change.l0 : Nat → List (S25) → List (S25) → List (S25) → Int → Option ((List (S25)) × Int)
  | 0, _, _, _, _ => none
  | k + 1, x0, x8, x9, x10 => if x10 < (x8.length : Int) then (if 0 ≤ x10 then ((lighterref08_Find.f k x0 ((rd_T25 x8 x10).f0)).bind fun t212 => (if t212 < 0 then (some (x0, 15)) else (lighterref08_Change.l0 k x0 x8 x9 (wrap64 (x10 + 1))))) else (none)) else (lighterref08_Change.l1 k x0 x8 x9 0)
def lighterref08_Change.l1 : Nat → List (S25) → List (S25) → List (S25) → Int → Option ((List (S25)) × Int)
  | 0, _, _, _, _ => none
  | k + 1, x0, x8, x9, x11 => if x11 < (x9.length : Int) then (if 0 ≤ x11 then ((lighterref08_Find.f k x0 ((rd_T25 x9 x11).f0)).bind fun t214 => (if t214 < 0 then (some (x0, 15)) else (lighterref08_Change.l1 k x0 x8 x9 (wrap64 (x11 + 1))))) else (none)) else (lighterref08_Change.l2 k x0 x8 x9 ([] : List (S25)) 0)
def lighterref08_Change.l2 : Nat → List (S25) → List (S25) → List (S25) → List (S25) → Int → Option ((List (S25)) × Int)
  | 0, _, _, _, _, _ => none
  | k + 1, x0, x8, x9, x12, x13 => if x13 < (x0.length : Int) then (if 0 ≤ x13 then ((lighterref08_Find.f k x8 ((rd_T25 x0 x13).f0)).bind fun t217 => (if t217 ≥ 0 then (if 0 ≤ t217 then (if t217 < (x8.length : Int) then (lighterref08_Change.j4 k x0 x8 x9 x12 x13 ((rd_T25 x0 x13).f0) ((rd_T25 x0 x13).f1) (wrap64 (((rd_T25 x0 x13).f2) + ((rd_T25 x8 t217).f2)))) else (none)) else (none)) else (lighterref08_Change.j4 k x0 x8 x9 x12 x13 ((rd_T25 x0 x13).f0) ((rd_T25 x0 x13).f1) ((rd_T25 x0 x13).f2)))) else (none)) else (some (x12, 0))
def lighterref08_Change.j4 : Nat → List (S25) → List (S25) → List (S25) → List (S25) → Int → Int → Int → Int → Option ((List (S25)) × Int)
  | 0, _, _, _, _, _, _, _, _ => none
  | k + 1, x0, x8, x9, x12, x13, x217000, x217001, x217002 => (lighterref08_Find.f k x9 x217000).bind fun t219 => (if t219 ≥ 0 then (if 0 ≤ t219 then (if t219 < (x9.length : Int) then ((lighterref08_May.f x217000 x217001 (wrap64 (x217002 - ((rd_T25 x9 t219).f2)))).bind fun t221 => (if t221 = true then (if x12.length < 5864062014805 then (lighterref08_Change.l2 k x0 x8 x9 (x12 ++ [(⟨x217000, x217001, wrap64 (x217002 - ((rd_T25 x9 t219).f2))⟩ : S25)]) (wrap64 (x13 + 1))) else (none)) else (some (x0, 31)))) else (none)) else (none)) else ((lighterref08_May.f x217000 x217001 x217002).bind fun t225 => (if t225 = true then (if x12.length < 5864062014805 then (lighterref08_Change.l2 k x0 x8 x9 (x12 ++ [(⟨x217000, x217001, x217002⟩ : S25)]) (wrap64 (x13 + 1))) else (none)) else (some (x0, 31)))))
end
def lighterref08_Change.f (k : Nat) (l0 : List (S25)) (l1 : List (S66)) (l2 : List (S66)) : Option ((List (S25)) × Int) := (lighterref08_All.f k l1).bind fun t203 => (if t203 = true then ((lighterref08_All.f k l2).bind fun t204 => (lighterref08_Change.j0 k l0 l1 l2 (!t204))) else (lighterref08_Change.j0 k l0 l1 l2 true))
def lighterref08_Change.T22 : Bool × List (List Nat × List Nat) := (true, [([], []), ([0], [0]), ([], []), ([], []), ([2, 3], [2, 3]), ([4], [4]), ([5], [5]), ([1, 6], [1, 6]), ([0, 1, 2, 3, 4, 5, 6, 7], []), ([8, 7, 0, 1, 2, 3, 4, 5, 6, 7], [7, 8])])
def lighterref08_Change.B22 : List Nat := [0, 1, 0, 0, 12, 28, 60, 127, 255, 511]
theorem lighterref08_Change.tab22 : rtab .any (opsOf Try.f38 22) = lighterref08_Change.T22 := by kernel_rfl
theorem lighterref08_Change.bits22 : waitsOk lighterref08_Change.T22.2 lighterref08_Change.B22 = true := by kernel_rfl
def lighterref08_Change.T25 : Bool × List (List Nat × List Nat) := (true, [([], []), ([0], [0]), ([], []), ([], []), ([2, 3], [2, 3]), ([4], [4]), ([5], [5]), ([1, 6], [1, 6]), ([0, 1, 2, 3, 4, 5, 6, 7], []), ([8, 7, 0, 1, 2, 3, 4, 5, 6, 7], [7, 8])])
def lighterref08_Change.B25 : List Nat := [0, 1, 0, 0, 12, 28, 60, 127, 255, 511]
theorem lighterref08_Change.tab25 : rtab .any (opsOf Try.f38 25) = lighterref08_Change.T25 := by kernel_rfl
theorem lighterref08_Change.bits25 : waitsOk lighterref08_Change.T25.2 lighterref08_Change.B25 = true := by kernel_rfl
set_option maxHeartbeats 8000000 in
set_option maxRecDepth 100000 in
theorem lighterref08_Change.calls (k : Nat) (P0_ : Nat → Prop) (u9000_ : Value) (l0 : List (S25)) (A1 : Option Addr) (c1 : Nat) (l1 : List (S66)) (A2 : Option Addr) (c2 : Nat) (l2 : List (S66)) (r1 : List (S25)) (r2 : Int) (w0 w : World) (hB : Below w0.heap.size w0 w) (ho0 : Kd.R k25 25 w w0.heap.size P0_ u9000_ l0) (hr1 : ∀ W_, Kept w W_ (fun k_ => P0_ k_) → Kd.C k66 W_ A1 l1.length l1) (hc1 : l1.length ≤ c1) (hr2 : ∀ W_, Kept w W_ (fun k_ => P0_ k_) → Kd.C k66 W_ A2 l2.length l2) (hc2 : l2.length ≤ c2) (h : lighterref08_Change.f k l0 l1 l2 = some (r1, r2)) :
    Calls Try.prog 38 #[u9000_, .slice A1 l1.length c1, .slice A2 l2.length c2] w fun e w' => ∃ v0_ : Value, e = .returned (.tuple #[v0_, .int .i64 r2]) ∧ Kd.R k25 25 w' w0.heap.size (fun k_ => (P0_ k_ ∨ w.heap.size ≤ k_)) v0_ r1 ∧ Below w0.heap.size w0 w' ∧ Kept w w' (fun k_ => P0_ k_) := by
  have hu25 := Try.underlying25
  have HO0 := Aside0.mk (show Kd.R k25 25 w w0.heap.size (fun k_ => (P0_ k_ ∨ w.heap.size ≤ k_)) u9000_ l0 from Kd.R_mono ho0 (fun k_ hk => (.inl hk)))
  have HR1 := Aside0.mk hr1
  have HC1 := Aside0.mk hc1
  clear hr1 hc1
  have HR2 := Aside0.mk hr2
  have HC2 := Aside0.mk hc2
  clear hr2 hc2
  have HK := Aside0.mk (Kept.refl w (fun k_ => P0_ k_))
  have HW0 := Aside0.mk hB.size
  have HB := Aside0.mk hB
  clear hB
  have H : ((lighterref08_All.f k l1).bind fun t203 => (if t203 = true then ((lighterref08_All.f k l2).bind fun t204 => (lighterref08_Change.j0 k l0 l1 l2 (!t204))) else (lighterref08_Change.j0 k l0 l1 l2 true))) = some (r1, r2) := h
  clear h
  have HC4 := Aside0.mk H
  clear H
  go_enter Try.func38, Try.ntmps38
  go_upto_region 1 with (fail)
  go_cut [23] (fun v23 wc => ∃ (kq : Nat) (x23_3 : Bool), v23 = .bool x23_3 ∧ Aside0 (lighterref08_Change.j0 kq l0 l1 l2 x23_3 = some (r1, r2)) ∧ Aside0 (kq ≤ k) ∧ Aside0 (Kd.R k25 25 wc w0.heap.size (fun k_ => (P0_ k_ ∨ w.heap.size ≤ k_)) u9000_ l0) ∧ Aside0 (Kept w wc (fun k_ => P0_ k_)) ∧ Aside0 (Below w0.heap.size w0 wc))
  case first =>
    have H := HC4.out
    clear HC4
    replace H := Option.bind_eq_some_iff.mp H
    obtain ⟨t203, A50, H⟩ := H
    replace H : (if t203 = true then ((lighterref08_All.f k l2).bind fun t204 => (lighterref08_Change.j0 k l0 l1 l2 (!t204))) else (lighterref08_Change.j0 k l0 l1 l2 true)) = some (r1, r2) := H
    have A5 := Aside0.mk A50
    clear A50
    by_cases c6 : t203 = true
    · subst c6
      have H1 : ((lighterref08_All.f k l2).bind fun t204 => (lighterref08_Change.j0 k l0 l1 l2 (!t204))) = some (r1, r2) := by rw [if_pos rfl] at H; exact H
      clear H
      have H := H1
      clear H1
      replace H := Option.bind_eq_some_iff.mp H
      obtain ⟨t204, A70, H⟩ := H
      replace H : (lighterref08_Change.j0 k l0 l1 l2 (!t204)) = some (r1, r2) := H
      have A7 := Aside0.mk A70
      clear A70
      have H' := Aside0.mk H
      clear H
      go_wp2_with (first | ((with_reducible refine gate_callee (f := 15) rfl ?_); refine goesL_ (some 17) rfl rfl Try.func15 (by kernel_rfl) rfl #[.slice A1 l1.length c1] rfl (by (try simp only [List.map_toArray, List.map_cons, List.map_nil]); first | done | rfl | (simp only [List.length_drop, List.length_take]; rfl)) ?_; (with_reducible refine (lighterref08_All.calls k _ _ l1 true _ ?side1 ?side2 A5.out).mono ?_); (case side1 => exact Kd.C_kept_now HR1.out (by repeat (first | (with_reducible first | exact HK.out | apply Kept.alloc | apply Kept.drewN | apply Kept.drew) | exact HK.out))); (case side2 => exact HC1.out); rintro e w8 ⟨rfl, hb⟩; refine ⟨_, rfl, ?_⟩; have n0_ := Aside0.mk (Kd.R_below (by (with_reducible repeat (first | apply Kd.R_alloc | apply Kd.R_drewN | apply Kd.R_drew)); exact HO0.out) hb); have n1_ := Aside0.mk (Kept.below (S := (fun k_ => P0_ k_)) (by repeat (first | (with_reducible first | exact HK.out | apply Kept.alloc | apply Kept.drewN | apply Kept.drew) | exact HK.out)) hb); have n2_ := Aside0.mk (below_step (by repeat (first | (with_reducible first | exact HB.out | apply below_alloc | apply pw_below_drewN | apply below_drew1) | exact HB.out)) hb); clear HO0; clear HK; clear HB; have HO0 := n0_; have HK := n1_; have HB := n2_; clear n0_ n1_ n2_; (try clear hb); (try clear hb2); (try clear hk); (try clear hi)) | (go_at_call 15; (with_reducible refine (lighterref08_All.calls k _ _ l2 t204 _ ?side1 ?side2 A7.out).mono ?_); (case side1 => exact Kd.C_kept_now HR2.out (by repeat (first | (with_reducible first | exact HK.out | apply Kept.alloc | apply Kept.drewN | apply Kept.drew) | exact HK.out))); (case side2 => exact HC2.out); rintro e w9 ⟨rfl, hb⟩; have n0_ := Aside0.mk (Kd.R_below (by (with_reducible repeat (first | apply Kd.R_alloc | apply Kd.R_drewN | apply Kd.R_drew)); exact HO0.out) hb); have n1_ := Aside0.mk (Kept.below (S := (fun k_ => P0_ k_)) (by repeat (first | (with_reducible first | exact HK.out | apply Kept.alloc | apply Kept.drewN | apply Kept.drew) | exact HK.out)) hb); have n2_ := Aside0.mk (below_step (by repeat (first | (with_reducible first | exact HB.out | apply below_alloc | apply pw_below_drewN | apply below_drew1) | exact HB.out)) hb); clear HO0; clear HK; clear HB; have HO0 := n0_; have HK := n1_; have HB := n2_; clear n0_ n1_ n2_; (try clear hb); (try clear hb2); (try clear hk); (try clear hi)))
      go_meet
      case rel => exact ⟨_, (!t204), (by first | rfl | (simp; done) | (simp [*]; done)), H', ⟨by first | omega | exact Nat.le_refl _⟩, ⟨by (with_reducible repeat (first | apply Kd.R_alloc | apply Kd.R_drewN | apply Kd.R_drew)); exact HO0.out⟩, ⟨by repeat (first | (with_reducible first | exact HK.out | apply Kept.alloc | apply Kept.drewN | apply Kept.drew) | exact HK.out)⟩, ⟨by repeat (first | (with_reducible first | exact HB.out | apply below_alloc | apply pw_below_drewN | apply below_drew1) | exact HB.out)⟩⟩
    · replace c6 := Bool.eq_false_iff.mpr c6
      subst c6
      have H1 : (lighterref08_Change.j0 k l0 l1 l2 true) = some (r1, r2) := by rw [if_neg (show ¬ (false = true) by decide)] at H; exact H
      clear H
      have H := H1
      clear H1
      have H' := Aside0.mk H
      clear H
      go_wp2_with (first | ((with_reducible refine gate_callee (f := 15) rfl ?_); refine goesL_ (some 17) rfl rfl Try.func15 (by kernel_rfl) rfl #[.slice A1 l1.length c1] rfl (by (try simp only [List.map_toArray, List.map_cons, List.map_nil]); first | done | rfl | (simp only [List.length_drop, List.length_take]; rfl)) ?_; (with_reducible refine (lighterref08_All.calls k _ _ l1 false _ ?side1 ?side2 A5.out).mono ?_); (case side1 => exact Kd.C_kept_now HR1.out (by repeat (first | (with_reducible first | exact HK.out | apply Kept.alloc | apply Kept.drewN | apply Kept.drew) | exact HK.out))); (case side2 => exact HC1.out); rintro e w10 ⟨rfl, hb⟩; refine ⟨_, rfl, ?_⟩; have n0_ := Aside0.mk (Kd.R_below (by (with_reducible repeat (first | apply Kd.R_alloc | apply Kd.R_drewN | apply Kd.R_drew)); exact HO0.out) hb); have n1_ := Aside0.mk (Kept.below (S := (fun k_ => P0_ k_)) (by repeat (first | (with_reducible first | exact HK.out | apply Kept.alloc | apply Kept.drewN | apply Kept.drew) | exact HK.out)) hb); have n2_ := Aside0.mk (below_step (by repeat (first | (with_reducible first | exact HB.out | apply below_alloc | apply pw_below_drewN | apply below_drew1) | exact HB.out)) hb); clear HO0; clear HK; clear HB; have HO0 := n0_; have HK := n1_; have HB := n2_; clear n0_ n1_ n2_; (try clear hb); (try clear hb2); (try clear hk); (try clear hi)))
      go_meet
      case rel => exact ⟨_, (true), (by first | rfl | (simp; done) | (simp [*]; done)), H', ⟨by first | omega | exact Nat.le_refl _⟩, ⟨by (with_reducible repeat (first | apply Kd.R_alloc | apply Kd.R_drewN | apply Kd.R_drew)); exact HO0.out⟩, ⟨by repeat (first | (with_reducible first | exact HK.out | apply Kept.alloc | apply Kept.drewN | apply Kept.drew) | exact HK.out)⟩, ⟨by repeat (first | (with_reducible first | exact HB.out | apply below_alloc | apply pw_below_drewN | apply below_drew1) | exact HB.out)⟩⟩
  case rest =>
    clear HC4
    try clear c1
    try clear c2
    try clear p2
    try clear c3
    try clear c6
    obtain ⟨kq, x23_3, rfl, HA, HJ3, HO_0, HK, HB⟩ := hcut
    cases kq with
    | zero => exact absurd HA.out (by simp [lighterref08_Change.j0])
    | succ kj3 =>
      have H := HA.out
      clear HA
      simp only [lighterref08_Change.j0] at H
      by_cases c11 : x23_3 = true
      · subst c11
        have H1 : (some (l0, 1)) = some (r1, r2) := by rw [if_pos rfl] at H; exact H
        clear H
        have H := H1
        clear H1
        simp only [Option.some.injEq, Prod.mk.injEq] at H
        obtain ⟨rfl, rfl⟩ := H
        go_wp2
        go_ret2
        exact ⟨_, by first | rfl | (simp [errW_none, errW_some] <;> rfl) | (simp [*, errW_none, errW_some] <;> rfl), by (with_reducible repeat (first | apply Kd.R_alloc | apply Kd.R_drewN | apply Kd.R_drew)); exact HO_0.out, by repeat (first | (with_reducible first | exact HB.out | apply below_alloc | apply pw_below_drewN | apply below_drew1) | exact HB.out), by repeat (first | (with_reducible first | exact HK.out | apply Kept.alloc | apply Kept.drewN | apply Kept.drew) | exact HK.out)⟩
      · replace c11 := Bool.eq_false_iff.mpr c11
        subst c11
        have H1 : ((lighterref08_Count.f kj3 l1).bind fun t205 => ((lighterref08_Count.f kj3 l2).bind fun t208 => (lighterref08_Change.l0 kj3 l0 t205 t208 0))) = some (r1, r2) := by rw [if_neg (show ¬ (false = true) by decide)] at H; exact H
        clear H
        have H := H1
        clear H1
        replace H := Option.bind_eq_some_iff.mp H
        obtain ⟨t205, A120, H⟩ := H
        replace H : ((lighterref08_Count.f kj3 l2).bind fun t208 => (lighterref08_Change.l0 kj3 l0 t205 t208 0)) = some (r1, r2) := H
        have A12 := Aside0.mk A120
        clear A120
        replace H := Option.bind_eq_some_iff.mp H
        obtain ⟨t208, A130, H⟩ := H
        replace H : (lighterref08_Change.l0 kj3 l0 t205 t208 0) = some (r1, r2) := H
        have A13 := Aside0.mk A130
        clear A130
        have H' := Aside0.mk H
        clear H
        go_wp2_with (first | ((with_reducible refine gate_callee (f := 18) rfl ?_); refine goesL_ (some 26) rfl rfl Try.func18 (by kernel_rfl) rfl #[.slice A1 l1.length c1] rfl (by (try simp only [List.map_toArray, List.map_cons, List.map_nil]); first | done | rfl | (simp only [List.length_drop, List.length_take]; rfl)) ?_; (with_reducible refine (lighterref08_Count.calls kj3 _ _ l1 t205 _ ?side1 ?side2 A12.out).mono ?_); (case side1 => exact Kd.C_kept_now HR1.out (by repeat (first | (with_reducible first | exact HK.out | apply Kept.alloc | apply Kept.drewN | apply Kept.drew) | exact HK.out))); (case side2 => exact HC1.out); rintro e w14 ⟨v206, rfl, ho0, hb⟩; refine ⟨_, rfl, ?_⟩; have n0_ := Aside0.mk (Kd.R_elder' (by (with_reducible repeat (first | apply Kd.R_alloc | apply Kd.R_drewN | apply Kd.R_drew)); exact HO_0.out) (Kd.R_base ho0) hb); have n1_ := Aside0.mk (Kd.R_lower (Kd.R_new' (Kd.R_newM (M := fun k_ => (P0_ k_ ∨ w.heap.size ≤ k_)) ho0 (by first | exact HK.out.1 | exact (show Kept w _ (fun k_ => P0_ k_) from by repeat (first | (with_reducible first | exact HK.out | apply Kept.alloc | apply Kept.drewN | apply Kept.drew) | exact HK.out)).1) (fun k_ h_ => .inr h_)) (Kd.R_lt (by (with_reducible repeat (first | apply Kd.R_alloc | apply Kd.R_drewN | apply Kd.R_drew)); exact HO_0.out))) (below_size (by repeat (first | (with_reducible first | exact HB.out | apply below_alloc | apply pw_below_drewN | apply below_drew1) | exact HB.out)))); have n2_ := Aside0.mk (Kept.below (S := (fun k_ => P0_ k_)) (by repeat (first | (with_reducible first | exact HK.out | apply Kept.alloc | apply Kept.drewN | apply Kept.drew) | exact HK.out)) hb); have n3_ := Aside0.mk (below_step (by repeat (first | (with_reducible first | exact HB.out | apply below_alloc | apply pw_below_drewN | apply below_drew1) | exact HB.out)) hb); clear HO_0; clear HK; clear HB; have HO_0 := n0_; have HO207 := n1_; have HK := n2_; have HB := n3_; clear n0_ n1_ n2_ n3_; (try clear hb); (try clear hb2); (try clear hk); (try clear hi); (try clear ho0)) | ((with_reducible refine gate_callee (f := 18) rfl ?_); refine goesL_ (some 28) rfl rfl Try.func18 (by kernel_rfl) rfl #[.slice A2 l2.length c2] rfl (by (try simp only [List.map_toArray, List.map_cons, List.map_nil]); first | done | rfl | (simp only [List.length_drop, List.length_take]; rfl)) ?_; (with_reducible refine (lighterref08_Count.calls kj3 _ _ l2 t208 _ ?side1 ?side2 A13.out).mono ?_); (case side1 => exact Kd.C_kept_now HR2.out (by repeat (first | (with_reducible first | exact HK.out | apply Kept.alloc | apply Kept.drewN | apply Kept.drew) | exact HK.out))); (case side2 => exact HC2.out); rintro e w15 ⟨v209, rfl, ho0, hb⟩; refine ⟨_, rfl, ?_⟩; have n0_ := Aside0.mk (Kd.R_elder' (by (with_reducible repeat (first | apply Kd.R_alloc | apply Kd.R_drewN | apply Kd.R_drew)); exact HO_0.out) (Kd.R_base ho0) hb); have n1_ := Aside0.mk (Kd.R_elder' (by (with_reducible repeat (first | apply Kd.R_alloc | apply Kd.R_drewN | apply Kd.R_drew)); exact HO207.out) (Kd.R_base ho0) hb); have n2_ := Aside0.mk (Kd.R_lower (Kd.R_new' (Kd.R_new' (Kd.R_newM (M := fun k_ => (P0_ k_ ∨ w.heap.size ≤ k_)) ho0 (by first | exact HK.out.1 | exact (show Kept w _ (fun k_ => P0_ k_) from by repeat (first | (with_reducible first | exact HK.out | apply Kept.alloc | apply Kept.drewN | apply Kept.drew) | exact HK.out)).1) (fun k_ h_ => .inr h_)) (Kd.R_lt (by (with_reducible repeat (first | apply Kd.R_alloc | apply Kd.R_drewN | apply Kd.R_drew)); exact HO_0.out))) (Kd.R_lt (by (with_reducible repeat (first | apply Kd.R_alloc | apply Kd.R_drewN | apply Kd.R_drew)); exact HO207.out))) (below_size (by repeat (first | (with_reducible first | exact HB.out | apply below_alloc | apply pw_below_drewN | apply below_drew1) | exact HB.out)))); have n3_ := Aside0.mk (Kept.below (S := (fun k_ => P0_ k_)) (by repeat (first | (with_reducible first | exact HK.out | apply Kept.alloc | apply Kept.drewN | apply Kept.drew) | exact HK.out)) hb); have n4_ := Aside0.mk (below_step (by repeat (first | (with_reducible first | exact HB.out | apply below_alloc | apply pw_below_drewN | apply below_drew1) | exact HB.out)) hb); clear HO_0; clear HO207; clear HK; clear HB; have HO_0 := n0_; have HO207 := n1_; have HO210 := n2_; have HK := n3_; have HB := n4_; clear n0_ n1_ n2_ n3_ n4_; (try clear hb); (try clear hb2); (try clear hk); (try clear hi); (try clear ho0)))
        go_loopg [10] kj3 (fun kq v10 w' => ∃ (x10_2 : Int), v10 = .int .i64 x10_2 ∧ Aside0 (lighterref08_Change.l0 kq l0 t205 t208 x10_2 = some (r1, r2)) ∧ Aside0 (kq ≤ kj3) ∧ Aside0 (Kd.R k25 25 w' w0.heap.size (fun k_ => (P0_ k_ ∨ w.heap.size ≤ k_) ∧ some k_ ≠ (v206 : Value).ownBlock ∧ some k_ ≠ (v209 : Value).ownBlock) u9000_ l0) ∧ Aside0 (Kd.R k25 25 w' w0.heap.size (fun k_ => (P0_ k_ ∨ w.heap.size ≤ k_) ∧ some k_ ≠ (u9000_ : Value).ownBlock ∧ some k_ ≠ (v209 : Value).ownBlock) v206 t205) ∧ Aside0 (Kd.R k25 25 w' w0.heap.size (fun k_ => (P0_ k_ ∨ w.heap.size ≤ k_) ∧ some k_ ≠ (u9000_ : Value).ownBlock ∧ some k_ ≠ (v206 : Value).ownBlock) v209 t208) ∧ Aside0 (Kept w w' (fun k_ => P0_ k_)) ∧ Aside0 (Below w0.heap.size w0 w'))
        case atStart => exact ⟨(0), (by first | rfl | (simp; done) | (simp [*]; done)), H', ⟨Nat.le_refl _⟩, ⟨by (with_reducible repeat (first | apply Kd.R_alloc | apply Kd.R_drewN | apply Kd.R_drew)); exact Kd.R_mono HO_0.out (fun _ hk => ⟨hk.1.1, ⟨hk.1.2, hk.2⟩⟩)⟩, ⟨by (with_reducible repeat (first | apply Kd.R_alloc | apply Kd.R_drewN | apply Kd.R_drew)); exact Kd.R_mono HO207.out (fun _ hk => ⟨hk.1.1.1, ⟨hk.1.2, hk.2⟩⟩)⟩, ⟨by (with_reducible repeat (first | apply Kd.R_alloc | apply Kd.R_drewN | apply Kd.R_drew)); exact Kd.R_mono HO210.out (fun _ hk => ⟨hk.1.1.1, ⟨hk.1.2, hk.2⟩⟩)⟩, ⟨by repeat (first | (with_reducible first | exact HK.out | apply Kept.alloc | apply Kept.drewN | apply Kept.drew) | exact HK.out)⟩, ⟨by repeat (first | (with_reducible first | exact HB.out | apply below_alloc | apply pw_below_drewN | apply below_drew1) | exact HB.out)⟩⟩
        case round =>
          clear H'
          try clear c1
          try clear c2
          try clear p2
          try clear c3
          try clear c6
          try clear c11
          try clear c15
          try clear p2
          obtain ⟨x10_2, rfl, HA, HK2, HO_0, HO_8, HO_9, HK, HB⟩ := hrel
          cases gk with
          | zero => exact absurd HA.out (by simp [lighterref08_Change.l0])
          | succ k2 =>
            have H := HA.out
            clear HA
            simp only [lighterref08_Change.l0] at H
            by_cases c16 : x10_2 < (t205.length : Int)
            · rw [if_pos c16] at H
              have c16b0 : decide (x10_2 < (t205.length : Int)) = true := decide_eq_true c16
              clear c16
              by_cases c17 : 0 ≤ x10_2
              · rw [if_pos c17] at H
                have c17b0 : decide (0 ≤ x10_2) = true := decide_eq_true c17
                clear c17
                replace H := Option.bind_eq_some_iff.mp H
                obtain ⟨t212, A180, H⟩ := H
                replace H : (if t212 < 0 then (some (l0, 15)) else (lighterref08_Change.l0 k2 l0 t205 t208 (wrap64 (x10_2 + 1)))) = some (r1, r2) := H
                have A18 := Aside0.mk A180
                clear A180
                by_cases c19 : t212 < 0
                · rw [if_pos c19] at H
                  have c19b0 : decide (t212 < 0) = true := decide_eq_true c19
                  clear c19
                  simp only [Option.some.injEq, Prod.mk.injEq] at H
                  obtain ⟨rfl, rfl⟩ := H
                  obtain ⟨Ao20, co20, eo20⟩ := Kd.R_slice HO_8.out
                  subst eo20
                  have p211 : 0 ≤ (x10_2 : Int) := of_decide_eq_true (by first | (with_reducible assumption) | assumption)
                  have q211 : x10_2 < (t205.length : Int) := of_decide_eq_true (by first | (with_reducible assumption) | assumption)
                  obtain ⟨ad211, e211, hx211_0, hx211_1, hx211_2⟩ := at_T25 (Kd.R_reads' HO_8.out).2.2 x10_2 p211 q211
                  cases e211
                  replace p211 := eq_true p211
                  replace q211 := eq_true q211
                  obtain ⟨Ao21, co21, eo21⟩ := Kd.R_slice HO_0.out
                  subst eo21
                  go_wp2_with (first | ((with_reducible refine gate_callee (f := 34) rfl ?_); refine goesL_ (some 41) rfl rfl Try.func34 (by kernel_rfl) rfl #[.slice Ao21 l0.length co21, .int .i64 ((rd_T25 t205 x10_2).f0)] rfl (by (try simp only [List.map_toArray, List.map_cons, List.map_nil]); first | done | rfl | (simp only [List.length_drop, List.length_take]; rfl)) ?_; (with_reducible refine (lighterref08_Find.calls k2 _ _ l0 ((rd_T25 t205 x10_2).f0) t212 _ ?side1 ?side2 A18.out).mono ?_); (case side1 => repeat (first | exact (Kd.R_reads' HO_0.out).2.2 | (with_reducible refine Kd.C_alloc ?_ _) | (with_reducible refine Kd.C_drewN ?_ _) | (with_reducible refine Kd.C_drew ?_))); (case side2 => exact (Kd.R_reads' HO_0.out).2.1); rintro e w' ⟨rfl, ⟨nd, rfl⟩⟩; refine ⟨_, rfl, ?_⟩))
                  go_ret2
                  exact ⟨_, by first | rfl | (simp [errW_none, errW_some] <;> rfl) | (simp [*, errW_none, errW_some] <;> rfl), by (with_reducible repeat (first | apply Kd.R_alloc | apply Kd.R_drewN | apply Kd.R_drew)); exact Kd.R_mono HO_0.out (fun _ hk => hk.1), by repeat (first | (with_reducible first | exact HB.out | apply below_alloc | apply pw_below_drewN | apply below_drew1) | exact HB.out), by repeat (first | (with_reducible first | exact HK.out | apply Kept.alloc | apply Kept.drewN | apply Kept.drew) | exact HK.out)⟩
                · rw [if_neg c19] at H
                  have c19b0 : decide (t212 < 0) = false := decide_eq_false c19
                  clear c19
                  have H' := Aside0.mk H
                  clear H
                  obtain ⟨Ao22, co22, eo22⟩ := Kd.R_slice HO_8.out
                  subst eo22
                  have p211 : 0 ≤ (x10_2 : Int) := of_decide_eq_true (by first | (with_reducible assumption) | assumption)
                  have q211 : x10_2 < (t205.length : Int) := of_decide_eq_true (by first | (with_reducible assumption) | assumption)
                  obtain ⟨ad211, e211, hx211_0, hx211_1, hx211_2⟩ := at_T25 (Kd.R_reads' HO_8.out).2.2 x10_2 p211 q211
                  cases e211
                  replace p211 := eq_true p211
                  replace q211 := eq_true q211
                  obtain ⟨Ao23, co23, eo23⟩ := Kd.R_slice HO_0.out
                  subst eo23
                  go_wp2_with (first | ((with_reducible refine gate_callee (f := 34) rfl ?_); refine goesL_ (some 41) rfl rfl Try.func34 (by kernel_rfl) rfl #[.slice Ao23 l0.length co23, .int .i64 ((rd_T25 t205 x10_2).f0)] rfl (by (try simp only [List.map_toArray, List.map_cons, List.map_nil]); first | done | rfl | (simp only [List.length_drop, List.length_take]; rfl)) ?_; (with_reducible refine (lighterref08_Find.calls k2 _ _ l0 ((rd_T25 t205 x10_2).f0) t212 _ ?side1 ?side2 A18.out).mono ?_); (case side1 => repeat (first | exact (Kd.R_reads' HO_0.out).2.2 | (with_reducible refine Kd.C_alloc ?_ _) | (with_reducible refine Kd.C_drewN ?_ _) | (with_reducible refine Kd.C_drew ?_))); (case side2 => exact (Kd.R_reads' HO_0.out).2.1); rintro e w' ⟨rfl, ⟨nd, rfl⟩⟩; refine ⟨_, rfl, ?_⟩))
                  go_roundg k2
                  case measure => have := HJ3.out; have := HK2.out; omega
                  case rel => exact ⟨(wrap64 (x10_2 + 1)), (by first | rfl | (simp; done) | (simp [*]; done)), H', ⟨by have := HJ3.out; have := HK2.out; omega⟩, ⟨by (with_reducible repeat (first | apply Kd.R_alloc | apply Kd.R_drewN | apply Kd.R_drew)); exact HO_0.out⟩, ⟨by (with_reducible repeat (first | apply Kd.R_alloc | apply Kd.R_drewN | apply Kd.R_drew)); exact HO_8.out⟩, ⟨by (with_reducible repeat (first | apply Kd.R_alloc | apply Kd.R_drewN | apply Kd.R_drew)); exact HO_9.out⟩, ⟨by repeat (first | (with_reducible first | exact HK.out | apply Kept.alloc | apply Kept.drewN | apply Kept.drew) | exact HK.out)⟩, ⟨by repeat (first | (with_reducible first | exact HB.out | apply below_alloc | apply pw_below_drewN | apply below_drew1) | exact HB.out)⟩⟩
              · rw [if_neg c17] at H
                exact absurd H (by simp)
            · rw [if_neg c16] at H
              have c16b0 : decide (x10_2 < (t205.length : Int)) = false := decide_eq_false c16
              clear c16
              have H' := Aside0.mk H
              clear H
              obtain ⟨Ao24, co24, eo24⟩ := Kd.R_slice HO_8.out
              subst eo24
              go_wp2
              go_loopg [11] k2 (fun kq v11 w' => ∃ (x11_3 : Int), v11 = .int .i64 x11_3 ∧ Aside0 (lighterref08_Change.l1 kq l0 t205 t208 x11_3 = some (r1, r2)) ∧ Aside0 (kq ≤ k2) ∧ Aside0 (Kd.R k25 25 w' w0.heap.size (fun k_ => (P0_ k_ ∨ w.heap.size ≤ k_) ∧ some k_ ≠ ((.slice Ao24 t205.length co24) : Value).ownBlock ∧ some k_ ≠ (v209 : Value).ownBlock) u9000_ l0) ∧ Aside0 (Kd.R k25 25 w' w0.heap.size (fun k_ => (P0_ k_ ∨ w.heap.size ≤ k_) ∧ some k_ ≠ (u9000_ : Value).ownBlock ∧ some k_ ≠ (v209 : Value).ownBlock) (.slice Ao24 t205.length co24) t205) ∧ Aside0 (Kd.R k25 25 w' w0.heap.size (fun k_ => (P0_ k_ ∨ w.heap.size ≤ k_) ∧ some k_ ≠ (u9000_ : Value).ownBlock ∧ some k_ ≠ ((.slice Ao24 t205.length co24) : Value).ownBlock) v209 t208) ∧ Aside0 (Kept w w' (fun k_ => P0_ k_)) ∧ Aside0 (Below w0.heap.size w0 w'))
              case atStart => exact ⟨(0), (by first | rfl | (simp; done) | (simp [*]; done)), H', ⟨Nat.le_refl _⟩, ⟨by (with_reducible repeat (first | apply Kd.R_alloc | apply Kd.R_drewN | apply Kd.R_drew)); exact HO_0.out⟩, ⟨by (with_reducible repeat (first | apply Kd.R_alloc | apply Kd.R_drewN | apply Kd.R_drew)); exact HO_8.out⟩, ⟨by (with_reducible repeat (first | apply Kd.R_alloc | apply Kd.R_drewN | apply Kd.R_drew)); exact HO_9.out⟩, ⟨by repeat (first | (with_reducible first | exact HK.out | apply Kept.alloc | apply Kept.drewN | apply Kept.drew) | exact HK.out)⟩, ⟨by repeat (first | (with_reducible first | exact HB.out | apply below_alloc | apply pw_below_drewN | apply below_drew1) | exact HB.out)⟩⟩
              case round =>
                clear H'
                try clear c1
                try clear c2
                try clear p2
                try clear q2
                try clear hx2
                try clear c3
                try clear c6
                try clear p6
                try clear c11
                try clear c15
                try clear c16
                try clear c16b0
                try clear c17
                try clear c17b0
                try clear c18
                try clear c19
                try clear c19b0
                try clear p21
                try clear q21
                try clear hx21
                try clear hx211_0
                try clear hx211_1
                try clear hx211_2
                try clear p2
                try clear p211
                try clear q211
                obtain ⟨x11_3, rfl, HA, HK3, HO_0, HO_8, HO_9, HK, HB⟩ := hrel
                cases gk with
                | zero => exact absurd HA.out (by simp [lighterref08_Change.l1])
                | succ k3 =>
                  have H := HA.out
                  clear HA
                  simp only [lighterref08_Change.l1] at H
                  by_cases c25 : x11_3 < (t208.length : Int)
                  · rw [if_pos c25] at H
                    have c25b0 : decide (x11_3 < (t208.length : Int)) = true := decide_eq_true c25
                    clear c25
                    by_cases c26 : 0 ≤ x11_3
                    · rw [if_pos c26] at H
                      have c26b0 : decide (0 ≤ x11_3) = true := decide_eq_true c26
                      clear c26
                      replace H := Option.bind_eq_some_iff.mp H
                      obtain ⟨t214, A270, H⟩ := H
                      replace H : (if t214 < 0 then (some (l0, 15)) else (lighterref08_Change.l1 k3 l0 t205 t208 (wrap64 (x11_3 + 1)))) = some (r1, r2) := H
                      have A27 := Aside0.mk A270
                      clear A270
                      by_cases c28 : t214 < 0
                      · rw [if_pos c28] at H
                        have c28b0 : decide (t214 < 0) = true := decide_eq_true c28
                        clear c28
                        simp only [Option.some.injEq, Prod.mk.injEq] at H
                        obtain ⟨rfl, rfl⟩ := H
                        obtain ⟨Ao29, co29, eo29⟩ := Kd.R_slice HO_9.out
                        subst eo29
                        have p213 : 0 ≤ (x11_3 : Int) := of_decide_eq_true (by first | (with_reducible assumption) | assumption)
                        have q213 : x11_3 < (t208.length : Int) := of_decide_eq_true (by first | (with_reducible assumption) | assumption)
                        obtain ⟨ad213, e213, hx213_0, hx213_1, hx213_2⟩ := at_T25 (Kd.R_reads' HO_9.out).2.2 x11_3 p213 q213
                        cases e213
                        replace p213 := eq_true p213
                        replace q213 := eq_true q213
                        obtain ⟨Ao30, co30, eo30⟩ := Kd.R_slice HO_0.out
                        subst eo30
                        go_wp2_with (first | ((with_reducible refine gate_callee (f := 34) rfl ?_); refine goesL_ (some 56) rfl rfl Try.func34 (by kernel_rfl) rfl #[.slice Ao30 l0.length co30, .int .i64 ((rd_T25 t208 x11_3).f0)] rfl (by (try simp only [List.map_toArray, List.map_cons, List.map_nil]); first | done | rfl | (simp only [List.length_drop, List.length_take]; rfl)) ?_; (with_reducible refine (lighterref08_Find.calls k3 _ _ l0 ((rd_T25 t208 x11_3).f0) t214 _ ?side1 ?side2 A27.out).mono ?_); (case side1 => repeat (first | exact (Kd.R_reads' HO_0.out).2.2 | (with_reducible refine Kd.C_alloc ?_ _) | (with_reducible refine Kd.C_drewN ?_ _) | (with_reducible refine Kd.C_drew ?_))); (case side2 => exact (Kd.R_reads' HO_0.out).2.1); rintro e w' ⟨rfl, ⟨nd, rfl⟩⟩; refine ⟨_, rfl, ?_⟩))
                        go_ret2
                        exact ⟨_, by first | rfl | (simp [errW_none, errW_some] <;> rfl) | (simp [*, errW_none, errW_some] <;> rfl), by (with_reducible repeat (first | apply Kd.R_alloc | apply Kd.R_drewN | apply Kd.R_drew)); exact Kd.R_mono HO_0.out (fun _ hk => hk.1), by repeat (first | (with_reducible first | exact HB.out | apply below_alloc | apply pw_below_drewN | apply below_drew1) | exact HB.out), by repeat (first | (with_reducible first | exact HK.out | apply Kept.alloc | apply Kept.drewN | apply Kept.drew) | exact HK.out)⟩
                      · rw [if_neg c28] at H
                        have c28b0 : decide (t214 < 0) = false := decide_eq_false c28
                        clear c28
                        have H' := Aside0.mk H
                        clear H
                        obtain ⟨Ao31, co31, eo31⟩ := Kd.R_slice HO_9.out
                        subst eo31
                        have p213 : 0 ≤ (x11_3 : Int) := of_decide_eq_true (by first | (with_reducible assumption) | assumption)
                        have q213 : x11_3 < (t208.length : Int) := of_decide_eq_true (by first | (with_reducible assumption) | assumption)
                        obtain ⟨ad213, e213, hx213_0, hx213_1, hx213_2⟩ := at_T25 (Kd.R_reads' HO_9.out).2.2 x11_3 p213 q213
                        cases e213
                        replace p213 := eq_true p213
                        replace q213 := eq_true q213
                        obtain ⟨Ao32, co32, eo32⟩ := Kd.R_slice HO_0.out
                        subst eo32
                        go_wp2_with (first | ((with_reducible refine gate_callee (f := 34) rfl ?_); refine goesL_ (some 56) rfl rfl Try.func34 (by kernel_rfl) rfl #[.slice Ao32 l0.length co32, .int .i64 ((rd_T25 t208 x11_3).f0)] rfl (by (try simp only [List.map_toArray, List.map_cons, List.map_nil]); first | done | rfl | (simp only [List.length_drop, List.length_take]; rfl)) ?_; (with_reducible refine (lighterref08_Find.calls k3 _ _ l0 ((rd_T25 t208 x11_3).f0) t214 _ ?side1 ?side2 A27.out).mono ?_); (case side1 => repeat (first | exact (Kd.R_reads' HO_0.out).2.2 | (with_reducible refine Kd.C_alloc ?_ _) | (with_reducible refine Kd.C_drewN ?_ _) | (with_reducible refine Kd.C_drew ?_))); (case side2 => exact (Kd.R_reads' HO_0.out).2.1); rintro e w' ⟨rfl, ⟨nd, rfl⟩⟩; refine ⟨_, rfl, ?_⟩))
                        go_roundg k3
                        case measure => have := HJ3.out; have := HK2.out; have := HK3.out; omega
                        case rel => exact ⟨(wrap64 (x11_3 + 1)), (by first | rfl | (simp; done) | (simp [*]; done)), H', ⟨by have := HJ3.out; have := HK2.out; have := HK3.out; omega⟩, ⟨by (with_reducible repeat (first | apply Kd.R_alloc | apply Kd.R_drewN | apply Kd.R_drew)); exact HO_0.out⟩, ⟨by (with_reducible repeat (first | apply Kd.R_alloc | apply Kd.R_drewN | apply Kd.R_drew)); exact HO_8.out⟩, ⟨by (with_reducible repeat (first | apply Kd.R_alloc | apply Kd.R_drewN | apply Kd.R_drew)); exact HO_9.out⟩, ⟨by repeat (first | (with_reducible first | exact HK.out | apply Kept.alloc | apply Kept.drewN | apply Kept.drew) | exact HK.out)⟩, ⟨by repeat (first | (with_reducible first | exact HB.out | apply below_alloc | apply pw_below_drewN | apply below_drew1) | exact HB.out)⟩⟩
                    · rw [if_neg c26] at H
                      exact absurd H (by simp)
                  · rw [if_neg c25] at H
                    have c25b0 : decide (x11_3 < (t208.length : Int)) = false := decide_eq_false c25
                    clear c25
                    have H' := Aside0.mk H
                    clear H
                    obtain ⟨Ao33, co33, eo33⟩ := Kd.R_slice HO_9.out
                    subst eo33
                    go_wp2
                    go_loopg [12, 13] k3 (fun kq v12 v13 w' => ∃ (x12_4 : List (S25)) (x13_4 : Int), v13 = .int .i64 x13_4 ∧ Aside0 (lighterref08_Change.l2 kq l0 t205 t208 x12_4 x13_4 = some (r1, r2)) ∧ Aside0 (kq ≤ k3) ∧ Aside0 (Kd.R k25 25 w' w0.heap.size (fun k_ => (P0_ k_ ∨ w.heap.size ≤ k_) ∧ some k_ ≠ ((.slice Ao24 t205.length co24) : Value).ownBlock ∧ some k_ ≠ ((.slice Ao33 t208.length co33) : Value).ownBlock ∧ some k_ ≠ (v12 : Value).ownBlock) u9000_ l0) ∧ Aside0 (Kd.R k25 25 w' w0.heap.size (fun k_ => (P0_ k_ ∨ w.heap.size ≤ k_) ∧ some k_ ≠ (u9000_ : Value).ownBlock ∧ some k_ ≠ ((.slice Ao33 t208.length co33) : Value).ownBlock ∧ some k_ ≠ (v12 : Value).ownBlock) (.slice Ao24 t205.length co24) t205) ∧ Aside0 (Kd.R k25 25 w' w0.heap.size (fun k_ => (P0_ k_ ∨ w.heap.size ≤ k_) ∧ some k_ ≠ (u9000_ : Value).ownBlock ∧ some k_ ≠ ((.slice Ao24 t205.length co24) : Value).ownBlock ∧ some k_ ≠ (v12 : Value).ownBlock) (.slice Ao33 t208.length co33) t208) ∧ Aside0 (Kd.R k25 25 w' w0.heap.size (fun k_ => (P0_ k_ ∨ w.heap.size ≤ k_) ∧ some k_ ≠ (u9000_ : Value).ownBlock ∧ some k_ ≠ ((.slice Ao24 t205.length co24) : Value).ownBlock ∧ some k_ ≠ ((.slice Ao33 t208.length co33) : Value).ownBlock) v12 x12_4) ∧ Aside0 (Kept w w' (fun k_ => P0_ k_)) ∧ Aside0 (Below w0.heap.size w0 w'))
                    case atStart => exact ⟨(([] : List (S25))), (0), (by first | rfl | (simp; done) | (simp [*]; done)), H', ⟨Nat.le_refl _⟩, ⟨by (with_reducible repeat (first | apply Kd.R_alloc | apply Kd.R_drewN | apply Kd.R_drew)); exact Kd.R_mono HO_0.out (fun _ hk => ⟨hk.1, ⟨hk.2.1, ⟨hk.2.2, (by simp [Value.ownBlock])⟩⟩⟩)⟩, ⟨by (with_reducible repeat (first | apply Kd.R_alloc | apply Kd.R_drewN | apply Kd.R_drew)); exact Kd.R_mono HO_8.out (fun _ hk => ⟨hk.1, ⟨hk.2.1, ⟨hk.2.2, (by simp [Value.ownBlock])⟩⟩⟩)⟩, ⟨by (with_reducible repeat (first | apply Kd.R_alloc | apply Kd.R_drewN | apply Kd.R_drew)); exact Kd.R_mono HO_9.out (fun _ hk => ⟨hk.1, ⟨hk.2.1, ⟨hk.2.2, (by simp [Value.ownBlock])⟩⟩⟩)⟩, ⟨by first | exact Kd.R_nil _ _ _ _ _ | exact Kd.N_nil _ _ _ _ _ | exact Kd.V_nil _ _ _ _ _ | exact Kd.Q_nil _ _ _ _ _ | exact Kd.S_nil _ _ _ _ _⟩, ⟨by repeat (first | (with_reducible first | exact HK.out | apply Kept.alloc | apply Kept.drewN | apply Kept.drew) | exact HK.out)⟩, ⟨by repeat (first | (with_reducible first | exact HB.out | apply below_alloc | apply pw_below_drewN | apply below_drew1) | exact HB.out)⟩⟩
                    case round =>
                      clear H'
                      try clear c1
                      try clear c2
                      try clear p2
                      try clear q2
                      try clear hx2
                      try clear c3
                      try clear c6
                      try clear p6
                      try clear c11
                      try clear c15
                      try clear c16
                      try clear c16b0
                      try clear c17
                      try clear c17b0
                      try clear c18
                      try clear c19
                      try clear c19b0
                      try clear p21
                      try clear q21
                      try clear hx21
                      try clear c25
                      try clear c25b0
                      try clear c26
                      try clear c26b0
                      try clear c28
                      try clear c28b0
                      try clear hx211_0
                      try clear hx211_1
                      try clear hx211_2
                      try clear hx213_0
                      try clear hx213_1
                      try clear hx213_2
                      try clear p2
                      try clear p21
                      try clear p211
                      try clear p213
                      try clear p6
                      try clear q2
                      try clear q21
                      try clear q211
                      try clear q213
                      obtain ⟨x12_4, x13_4, rfl, HA, HK4, HO_0, HO_8, HO_9, HO_12, HK, HB⟩ := hrel
                      cases gk with
                      | zero => exact absurd HA.out (by simp [lighterref08_Change.l2])
                      | succ k4 =>
                        have H := HA.out
                        clear HA
                        simp only [lighterref08_Change.l2] at H
                        by_cases c34 : x13_4 < (l0.length : Int)
                        · rw [if_pos c34] at H
                          have c34b0 : decide (x13_4 < (l0.length : Int)) = true := decide_eq_true c34
                          clear c34
                          by_cases c35 : 0 ≤ x13_4
                          · rw [if_pos c35] at H
                            have c35b0 : decide (0 ≤ x13_4) = true := decide_eq_true c35
                            clear c35
                            replace H := Option.bind_eq_some_iff.mp H
                            obtain ⟨t217, A360, H⟩ := H
                            replace H : (if t217 ≥ 0 then (if 0 ≤ t217 then (if t217 < (t205.length : Int) then (lighterref08_Change.j4 k4 l0 t205 t208 x12_4 x13_4 ((rd_T25 l0 x13_4).f0) ((rd_T25 l0 x13_4).f1) (wrap64 (((rd_T25 l0 x13_4).f2) + ((rd_T25 t205 t217).f2)))) else (none)) else (none)) else (lighterref08_Change.j4 k4 l0 t205 t208 x12_4 x13_4 ((rd_T25 l0 x13_4).f0) ((rd_T25 l0 x13_4).f1) ((rd_T25 l0 x13_4).f2))) = some (r1, r2) := H
                            have A36 := Aside0.mk A360
                            clear A360
                            have HC37 := Aside0.mk H
                            clear H
                            obtain ⟨Ao38, co38, eo38⟩ := Kd.R_slice HO_0.out
                            subst eo38
                            have p215 : 0 ≤ (x13_4 : Int) := of_decide_eq_true (by first | (with_reducible assumption) | assumption)
                            have q215 : x13_4 < (l0.length : Int) := of_decide_eq_true (by first | (with_reducible assumption) | assumption)
                            obtain ⟨ad215, e215, hx215_0, hx215_1, hx215_2⟩ := at_T25 (Kd.R_reads' HO_0.out).2.2 x13_4 p215 q215
                            cases e215
                            replace p215 := eq_true p215
                            replace q215 := eq_true q215
                            go_upto_if 74 with (first | ((with_reducible refine gate_dst (N := 14) rfl ?_); refine box_event ?hg (N := 14) ?hd (cs := #[.int .i64 0, .int .i64 0, .int .i64 0]) (t := 25) ?hr ?_; (case hd => rfl); (case hg => rfl); (case hr => first | (go_simp; done) | (go_simp; rfl)); intro gb216 hg w39 hbox hb; have n0_ := Aside0.mk (Kd.R_below (Kd.R_elderB (by (with_reducible repeat (first | apply Kd.R_alloc | apply Kd.R_drewN | apply Kd.R_drew)); exact HO_0.out) gb216 (Nat.le_of_eq hg.symm)) hb); have n1_ := Aside0.mk (Kd.R_below (Kd.R_elderB (by (with_reducible repeat (first | apply Kd.R_alloc | apply Kd.R_drewN | apply Kd.R_drew)); exact HO_8.out) gb216 (Nat.le_of_eq hg.symm)) hb); have n2_ := Aside0.mk (Kd.R_below (Kd.R_elderB (by (with_reducible repeat (first | apply Kd.R_alloc | apply Kd.R_drewN | apply Kd.R_drew)); exact HO_9.out) gb216 (Nat.le_of_eq hg.symm)) hb); have n3_ := Aside0.mk (Kd.R_below (Kd.R_elderB (by (with_reducible repeat (first | apply Kd.R_alloc | apply Kd.R_drewN | apply Kd.R_drew)); exact HO_12.out) gb216 (Nat.le_of_eq hg.symm)) hb); have n4_ := Aside0.mk (Kept.below (S := (fun k_ => P0_ k_)) (by repeat (first | (with_reducible first | exact HK.out | apply Kept.alloc | apply Kept.drewN | apply Kept.drew) | exact HK.out)) hb); have n5_ := Aside0.mk (below_step (by repeat (first | (with_reducible first | exact HB.out | apply below_alloc | apply pw_below_drewN | apply below_drew1) | exact HB.out)) hb); have n6_ := Aside0.mk (hbox); have n7_ := Aside0.mk ((by rw [hg]; exact (by first | exact HK.out.1 | exact (show Kept w _ (fun k_ => P0_ k_) from by repeat (first | (with_reducible first | exact HK.out | apply Kept.alloc | apply Kept.drewN | apply Kept.drew) | exact HK.out)).1) : w.heap.size ≤ gb216)); have n8_ := Aside0.mk ((by rw [hg]; exact (below_size (by repeat (first | (with_reducible first | exact HB.out | apply below_alloc | apply pw_below_drewN | apply below_drew1) | exact HB.out))) : w0.heap.size ≤ gb216)); clear HO_0; clear HO_8; clear HO_9; clear HO_12; clear HK; clear HB; have HO_0 := n0_; have HO_8 := n1_; have HO_9 := n2_; have HO_12 := n3_; have HK := n4_; have HB := n5_; have BK216 := n6_; have GW216 := n7_; have GE216 := n8_; clear n0_ n1_ n2_ n3_ n4_ n5_ n6_ n7_ n8_; clear hb hbox hg; have hcz40_0 : w39.cell? ⟨gb216, 0, none⟩ = some (.int .i64 0) := (blk_cell BK216.out 0).trans rfl; have hcz40_1 : w39.cell? ⟨gb216, 1, none⟩ = some (.int .i64 0) := (blk_cell BK216.out 1).trans rfl; have hcz40_2 : w39.cell? ⟨gb216, 2, none⟩ = some (.int .i64 0) := (blk_cell BK216.out 2).trans rfl; have hfz40_0 := blk_frozen BK216.out 0; have hfz40_1 := blk_frozen BK216.out 1; have hfz40_2 := blk_frozen BK216.out 2) | ((with_reducible refine gate_callee (f := 34) rfl ?_); refine goesL_ (some 72) rfl rfl Try.func34 (by kernel_rfl) rfl #[.slice Ao24 t205.length co24, .int .i64 ((rd_T25 l0 x13_4).f0)] rfl (by (try simp only [List.map_toArray, List.map_cons, List.map_nil]); first | done | rfl | (simp only [List.length_drop, List.length_take]; rfl)) ?_; (with_reducible refine (lighterref08_Find.calls k4 _ _ t205 ((rd_T25 l0 x13_4).f0) t217 _ ?side1 ?side2 A36.out).mono ?_); (case side1 => refine (Kd.R_reads' (e := 25) (base := w0.heap.size) (ok := fun k_ => (((P0_ k_ ∨ w.heap.size ≤ k_) ∧ (some k_ ≠ (.slice (some ad215) l0.length co38 : Value).ownBlock ∧ (some k_ ≠ (.slice Ao33 t208.length co33 : Value).ownBlock ∧ some k_ ≠ (u12 : Value).ownBlock))) ∧ k_ ≠ gb216)) (n := t205.length) (c := co24) ?_).2.2; exact (by (with_reducible repeat (first | apply Kd.R_alloc | apply Kd.R_drewN | apply Kd.R_drew)); exact (Kd.R_mono (Kd.R_far (p := ⟨gb216, 2, none⟩) (Kd.R_far (p := ⟨gb216, 1, none⟩) (Kd.R_far (p := ⟨gb216, 0, none⟩) (Kd.R_mono HO_8.out (fun k_ hk => (⟨hk, hk.2⟩ : _ ∧ k_ ≠ gb216))) (fun _ hk => hk.2) (.int .i64 ((rd_T25 l0 x13_4).f0))) (fun _ hk => hk.2) (.int .i64 ((rd_T25 l0 x13_4).f1))) (fun _ hk => hk.2) (.int .i64 ((rd_T25 l0 x13_4).f2))) (fun _ h_ => h_.1)))); (case side2 => exact (Kd.R_reads' HO_8.out).2.1); rintro e w' ⟨rfl, ⟨nd, rfl⟩⟩; refine ⟨_, rfl, ?_⟩))
                            (try simp only [Act.put, List.setIfInBounds_toArray, List.set_cons_zero, List.set_cons_succ])
                            go_cut [] (fun wc => ∃ (kq : Nat) (x217002_36 : Int), Aside0 (lighterref08_Change.j4 kq l0 t205 t208 x12_4 x13_4 ((rd_T25 l0 x13_4).f0) ((rd_T25 l0 x13_4).f1) x217002_36 = some (r1, r2)) ∧ Aside0 (kq ≤ k4) ∧ Aside0 (Kd.R k25 25 wc w0.heap.size (fun k_ => (P0_ k_ ∨ w.heap.size ≤ k_) ∧ some k_ ≠ ((.slice Ao24 t205.length co24) : Value).ownBlock ∧ some k_ ≠ ((.slice Ao33 t208.length co33) : Value).ownBlock ∧ some k_ ≠ (u12 : Value).ownBlock ∧ k_ ≠ gb216) (.slice (some ad215) l0.length co38) l0) ∧ Aside0 (Kd.R k25 25 wc w0.heap.size (fun k_ => (P0_ k_ ∨ w.heap.size ≤ k_) ∧ some k_ ≠ ((.slice (some ad215) l0.length co38) : Value).ownBlock ∧ some k_ ≠ ((.slice Ao33 t208.length co33) : Value).ownBlock ∧ some k_ ≠ (u12 : Value).ownBlock ∧ k_ ≠ gb216) (.slice Ao24 t205.length co24) t205) ∧ Aside0 (Kd.R k25 25 wc w0.heap.size (fun k_ => (P0_ k_ ∨ w.heap.size ≤ k_) ∧ some k_ ≠ ((.slice (some ad215) l0.length co38) : Value).ownBlock ∧ some k_ ≠ ((.slice Ao24 t205.length co24) : Value).ownBlock ∧ some k_ ≠ (u12 : Value).ownBlock ∧ k_ ≠ gb216) (.slice Ao33 t208.length co33) t208) ∧ Aside0 (Kd.R k25 25 wc w0.heap.size (fun k_ => (P0_ k_ ∨ w.heap.size ≤ k_) ∧ some k_ ≠ ((.slice (some ad215) l0.length co38) : Value).ownBlock ∧ some k_ ≠ ((.slice Ao24 t205.length co24) : Value).ownBlock ∧ some k_ ≠ ((.slice Ao33 t208.length co33) : Value).ownBlock ∧ k_ ≠ gb216) u12 x12_4) ∧ Aside0 (wc.heap[gb216]? = some (.cells #[.int .i64 ((rd_T25 l0 x13_4).f0), .int .i64 ((rd_T25 l0 x13_4).f1), .int .i64 x217002_36] 25 (0, 0))) ∧ Aside0 (Kept w wc (fun k_ => P0_ k_)) ∧ Aside0 (Below w0.heap.size w0 wc))
                            case first =>
                              have H := HC37.out
                              clear HC37
                              by_cases c41 : t217 ≥ 0
                              · rw [if_pos c41] at H
                                have c41b0 : decide (0 ≤ t217) = true := decide_eq_true c41
                                clear c41
                                (first | rw [c41b0] | (simp only [i64_w, i32_w]; rw [c41b0]) | skip)
                                by_cases c42 : 0 ≤ t217
                                · rw [if_pos c42] at H
                                  have c42b0 : decide (0 ≤ t217) = true := decide_eq_true c42
                                  clear c42
                                  by_cases c43 : t217 < (t205.length : Int)
                                  · rw [if_pos c43] at H
                                    have c43b0 : decide (t217 < (t205.length : Int)) = true := decide_eq_true c43
                                    clear c43
                                    have H' := Aside0.mk H
                                    clear H
                                    try go_wp2
                                    have n0_ : Aside0 (Kd.R k25 25 (((w39.setCell ⟨gb216, 0, none⟩ (.int .i64 ((rd_T25 l0 x13_4).f0))).setCell ⟨gb216, 1, none⟩ (.int .i64 ((rd_T25 l0 x13_4).f1))).setCell ⟨gb216, 2, none⟩ (.int .i64 ((rd_T25 l0 x13_4).f2))) w0.heap.size (fun k_ => (P0_ k_ ∨ w.heap.size ≤ k_) ∧ some k_ ≠ (.slice Ao24 t205.length co24 : Value).ownBlock ∧ some k_ ≠ (.slice Ao33 t208.length co33 : Value).ownBlock ∧ some k_ ≠ (u12 : Value).ownBlock ∧ k_ ≠ gb216) (.slice (some ad215) l0.length co38) l0) := ⟨by (with_reducible repeat (first | apply Kd.R_alloc | apply Kd.R_drewN | apply Kd.R_drew)); exact Kd.R_mono (Kd.R_far (p := ⟨gb216, 2, none⟩) (Kd.R_far (p := ⟨gb216, 1, none⟩) (Kd.R_far (p := ⟨gb216, 0, none⟩) (Kd.R_mono HO_0.out (fun k_ hk => (⟨hk, hk.2⟩ : _ ∧ k_ ≠ gb216))) (fun _ hk => hk.2) (.int .i64 ((rd_T25 l0 x13_4).f0))) (fun _ hk => hk.2) (.int .i64 ((rd_T25 l0 x13_4).f1))) (fun _ hk => hk.2) (.int .i64 ((rd_T25 l0 x13_4).f2))) (fun _ hk => ⟨hk.1.1.1, ⟨hk.1.1.2.1, ⟨hk.1.1.2.2.1, ⟨hk.1.1.2.2.2, hk.1.2⟩⟩⟩⟩)⟩
                                    have n1_ : Aside0 (Kd.R k25 25 (((w39.setCell ⟨gb216, 0, none⟩ (.int .i64 ((rd_T25 l0 x13_4).f0))).setCell ⟨gb216, 1, none⟩ (.int .i64 ((rd_T25 l0 x13_4).f1))).setCell ⟨gb216, 2, none⟩ (.int .i64 ((rd_T25 l0 x13_4).f2))) w0.heap.size (fun k_ => (P0_ k_ ∨ w.heap.size ≤ k_) ∧ some k_ ≠ (.slice (some ad215) l0.length co38 : Value).ownBlock ∧ some k_ ≠ (.slice Ao33 t208.length co33 : Value).ownBlock ∧ some k_ ≠ (u12 : Value).ownBlock ∧ k_ ≠ gb216) (.slice Ao24 t205.length co24) t205) := ⟨by (with_reducible repeat (first | apply Kd.R_alloc | apply Kd.R_drewN | apply Kd.R_drew)); exact Kd.R_mono (Kd.R_far (p := ⟨gb216, 2, none⟩) (Kd.R_far (p := ⟨gb216, 1, none⟩) (Kd.R_far (p := ⟨gb216, 0, none⟩) (Kd.R_mono HO_8.out (fun k_ hk => (⟨hk, hk.2⟩ : _ ∧ k_ ≠ gb216))) (fun _ hk => hk.2) (.int .i64 ((rd_T25 l0 x13_4).f0))) (fun _ hk => hk.2) (.int .i64 ((rd_T25 l0 x13_4).f1))) (fun _ hk => hk.2) (.int .i64 ((rd_T25 l0 x13_4).f2))) (fun _ hk => ⟨hk.1.1.1, ⟨hk.1.1.2.1, ⟨hk.1.1.2.2.1, ⟨hk.1.1.2.2.2, hk.1.2⟩⟩⟩⟩)⟩
                                    have n2_ : Aside0 (Kd.R k25 25 (((w39.setCell ⟨gb216, 0, none⟩ (.int .i64 ((rd_T25 l0 x13_4).f0))).setCell ⟨gb216, 1, none⟩ (.int .i64 ((rd_T25 l0 x13_4).f1))).setCell ⟨gb216, 2, none⟩ (.int .i64 ((rd_T25 l0 x13_4).f2))) w0.heap.size (fun k_ => (P0_ k_ ∨ w.heap.size ≤ k_) ∧ some k_ ≠ (.slice (some ad215) l0.length co38 : Value).ownBlock ∧ some k_ ≠ (.slice Ao24 t205.length co24 : Value).ownBlock ∧ some k_ ≠ (u12 : Value).ownBlock ∧ k_ ≠ gb216) (.slice Ao33 t208.length co33) t208) := ⟨by (with_reducible repeat (first | apply Kd.R_alloc | apply Kd.R_drewN | apply Kd.R_drew)); exact Kd.R_mono (Kd.R_far (p := ⟨gb216, 2, none⟩) (Kd.R_far (p := ⟨gb216, 1, none⟩) (Kd.R_far (p := ⟨gb216, 0, none⟩) (Kd.R_mono HO_9.out (fun k_ hk => (⟨hk, hk.2⟩ : _ ∧ k_ ≠ gb216))) (fun _ hk => hk.2) (.int .i64 ((rd_T25 l0 x13_4).f0))) (fun _ hk => hk.2) (.int .i64 ((rd_T25 l0 x13_4).f1))) (fun _ hk => hk.2) (.int .i64 ((rd_T25 l0 x13_4).f2))) (fun _ hk => ⟨hk.1.1.1, ⟨hk.1.1.2.1, ⟨hk.1.1.2.2.1, ⟨hk.1.1.2.2.2, hk.1.2⟩⟩⟩⟩)⟩
                                    have n3_ : Aside0 (Kd.R k25 25 (((w39.setCell ⟨gb216, 0, none⟩ (.int .i64 ((rd_T25 l0 x13_4).f0))).setCell ⟨gb216, 1, none⟩ (.int .i64 ((rd_T25 l0 x13_4).f1))).setCell ⟨gb216, 2, none⟩ (.int .i64 ((rd_T25 l0 x13_4).f2))) w0.heap.size (fun k_ => (P0_ k_ ∨ w.heap.size ≤ k_) ∧ some k_ ≠ (.slice (some ad215) l0.length co38 : Value).ownBlock ∧ some k_ ≠ (.slice Ao24 t205.length co24 : Value).ownBlock ∧ some k_ ≠ (.slice Ao33 t208.length co33 : Value).ownBlock ∧ k_ ≠ gb216) u12 x12_4) := ⟨by (with_reducible repeat (first | apply Kd.R_alloc | apply Kd.R_drewN | apply Kd.R_drew)); exact Kd.R_mono (Kd.R_far (p := ⟨gb216, 2, none⟩) (Kd.R_far (p := ⟨gb216, 1, none⟩) (Kd.R_far (p := ⟨gb216, 0, none⟩) (Kd.R_mono HO_12.out (fun k_ hk => (⟨hk, hk.2⟩ : _ ∧ k_ ≠ gb216))) (fun _ hk => hk.2) (.int .i64 ((rd_T25 l0 x13_4).f0))) (fun _ hk => hk.2) (.int .i64 ((rd_T25 l0 x13_4).f1))) (fun _ hk => hk.2) (.int .i64 ((rd_T25 l0 x13_4).f2))) (fun _ hk => ⟨hk.1.1.1, ⟨hk.1.1.2.1, ⟨hk.1.1.2.2.1, ⟨hk.1.1.2.2.2, hk.1.2⟩⟩⟩⟩)⟩
                                    have n4_ : Aside0 ((((w39.setCell ⟨gb216, 0, none⟩ (.int .i64 ((rd_T25 l0 x13_4).f0))).setCell ⟨gb216, 1, none⟩ (.int .i64 ((rd_T25 l0 x13_4).f1))).setCell ⟨gb216, 2, none⟩ (.int .i64 ((rd_T25 l0 x13_4).f2))).heap[gb216]? = some (.cells #[.int .i64 ((rd_T25 l0 x13_4).f0), .int .i64 ((rd_T25 l0 x13_4).f1), .int .i64 ((rd_T25 l0 x13_4).f2)] 25 (0, 0))) := ⟨by (with_reducible repeat (first | refine blk_drewN ?_ _ | refine blk_drew ?_ | refine blk_alloc ?_ _)); refine blk_put (cs := #[.int .i64 ((rd_T25 l0 x13_4).f0), .int .i64 ((rd_T25 l0 x13_4).f1), .int .i64 0]) ?_ 2 _ rfl; (with_reducible repeat (first | refine blk_drewN ?_ _ | refine blk_drew ?_ | refine blk_alloc ?_ _)); refine blk_put (cs := #[.int .i64 ((rd_T25 l0 x13_4).f0), .int .i64 0, .int .i64 0]) ?_ 1 _ rfl; (with_reducible repeat (first | refine blk_drewN ?_ _ | refine blk_drew ?_ | refine blk_alloc ?_ _)); refine blk_put (cs := #[.int .i64 0, .int .i64 0, .int .i64 0]) ?_ 0 _ rfl; (with_reducible repeat (first | refine blk_drewN ?_ _ | refine blk_drew ?_ | refine blk_alloc ?_ _)); exact BK216.out⟩
                                    have n5_ : Aside0 (Kept w (((w39.setCell ⟨gb216, 0, none⟩ (.int .i64 ((rd_T25 l0 x13_4).f0))).setCell ⟨gb216, 1, none⟩ (.int .i64 ((rd_T25 l0 x13_4).f1))).setCell ⟨gb216, 2, none⟩ (.int .i64 ((rd_T25 l0 x13_4).f2))) (fun k_ => P0_ k_)) := ⟨by repeat (first | (with_reducible first | exact HK.out | apply Kept.alloc | apply Kept.drewN | apply Kept.drew | refine Kept.setCell ?_ (.inr GW216.out) _) | exact HK.out)⟩
                                    have n6_ : Aside0 (Below w0.heap.size w0 (((w39.setCell ⟨gb216, 0, none⟩ (.int .i64 ((rd_T25 l0 x13_4).f0))).setCell ⟨gb216, 1, none⟩ (.int .i64 ((rd_T25 l0 x13_4).f1))).setCell ⟨gb216, 2, none⟩ (.int .i64 ((rd_T25 l0 x13_4).f2)))) := ⟨by repeat (first | (with_reducible first | exact HB.out | apply below_alloc | apply pw_below_drewN | apply below_drew1 | refine below_set ?_ GE216.out) | exact HB.out)⟩
                                    (try clear HO_0)
                                    (try clear HO_8)
                                    (try clear HO_9)
                                    (try clear HO_12)
                                    (try clear BK216)
                                    (try clear HK)
                                    (try clear HB)
                                    generalize (((w39.setCell ⟨gb216, 0, none⟩ (.int .i64 ((rd_T25 l0 x13_4).f0))).setCell ⟨gb216, 1, none⟩ (.int .i64 ((rd_T25 l0 x13_4).f1))).setCell ⟨gb216, 2, none⟩ (.int .i64 ((rd_T25 l0 x13_4).f2))) = w44 at n0_ n1_ n2_ n3_ n4_ n5_ n6_ ⊢
                                    have HO_0 := n0_
                                    have HO_8 := n1_
                                    have HO_9 := n2_
                                    have HO_12 := n3_
                                    have BK216 := n4_
                                    have HK := n5_
                                    have HB := n6_
                                    clear n0_ n1_ n2_ n3_ n4_ n5_ n6_
                                    replace HO_0 := Aside0.mk (Kd.R_drewN HO_0.out nd)
                                    replace HO_8 := Aside0.mk (Kd.R_drewN HO_8.out nd)
                                    replace HO_9 := Aside0.mk (Kd.R_drewN HO_9.out nd)
                                    replace HO_12 := Aside0.mk (Kd.R_drewN HO_12.out nd)
                                    replace BK216 := Aside0.mk (blk_drewN BK216.out nd)
                                    replace HK := Aside0.mk (Kept.drewN HK.out nd)
                                    replace HB := Aside0.mk (pw_below_drewN HB.out nd)
                                    generalize w44.drewN nd = w44 at HO_0 HO_8 HO_9 HO_12 BK216 HK HB ⊢
                                    have n0_ := Aside0.mk (Kd.R_drew HO_0.out)
                                    have n1_ := Aside0.mk (Kd.R_drew HO_8.out)
                                    have n2_ := Aside0.mk (Kd.R_drew HO_9.out)
                                    have n3_ := Aside0.mk (Kd.R_drew HO_12.out)
                                    have n4_ := Aside0.mk (blk_drew BK216.out)
                                    have n5_ := Aside0.mk (Kept.drew HK.out)
                                    have n6_ := Aside0.mk (below_drew1 HB.out)
                                    clear HO_0
                                    clear HO_8
                                    clear HO_9
                                    clear HO_12
                                    clear BK216
                                    clear HK
                                    clear HB
                                    have HO_0 := n0_
                                    have HO_8 := n1_
                                    have HO_9 := n2_
                                    have HO_12 := n3_
                                    have BK216 := n4_
                                    have HK := n5_
                                    have HB := n6_
                                    clear n0_ n1_ n2_ n3_ n4_ n5_ n6_
                                    have p218 : 0 ≤ (t217 : Int) := of_decide_eq_true (by first | (with_reducible assumption) | assumption)
                                    have q218 : t217 < (t205.length : Int) := of_decide_eq_true (by first | (with_reducible assumption) | assumption)
                                    obtain ⟨ad218, e218, hx218_0, hx218_1, hx218_2⟩ := at_T25 (Kd.R_reads' HO_8.out).2.2 t217 p218 q218
                                    cases e218
                                    replace p218 := eq_true p218
                                    replace q218 := eq_true q218
                                    refine start_ (n := 10) (S := fun w' => w'.cell? ⟨gb216, 0, none⟩ = some (.int .i64 ((rd_T25 l0 x13_4).f0)) ∧ w'.cell? ⟨gb216, 1, none⟩ = some (.int .i64 ((rd_T25 l0 x13_4).f1)) ∧ w'.cell? ⟨gb216, 2, none⟩ = some (.int .i64 ((rd_T25 l0 x13_4).f2)) ∧ w'.cell? (ad218.add ((t217).toNat * 3)) = some (.int .i64 ((rd_T25 t205 t217).f0)) ∧ w'.cell? ⟨(ad218.add ((t217).toNat * 3)).block, (ad218.add ((t217).toNat * 3)).off + 1, none⟩ = some (.int .i64 ((rd_T25 t205 t217).f1)) ∧ w'.cell? ⟨(ad218.add ((t217).toNat * 3)).block, (ad218.add ((t217).toNat * 3)).off + 2, none⟩ = some (.int .i64 ((rd_T25 t205 t217).f2))) (ds := [9]) #[false, false, false, false, false, false, false, false, false, false] (by kernel_rfl) rfl rfl ⟨(blk_cell BK216.out 0).trans rfl, (blk_cell BK216.out 1).trans rfl, (blk_cell BK216.out 2).trans rfl, hx218_0, hx218_1, hx218_2⟩ (fun hHeld => ?_); refine with_tabW lighterref08_Change.tab22 lighterref08_Change.bits22 (fun HT_ HW_ => ?_)
                                    generalize w44.drew = w45 at HO_0 HO_8 HO_9 HO_12 BK216 HK HB hx218_0 hx218_1 hx218_2 hHeld ⊢
                                    refine pure_ (i := 0) (N := some 75) (v := ?_) (a' := ?_) #[true, false, false, false, false, false, false, false, false, false] rfl rfl (any_of HT_.out (by kernel_rfl)) (fun _ _ _ h => h) (Or.inl ⟨by rfl, ?_⟩) ?_ ?_
                                    rotate_left
                                    · intro w'
                                      go_simp
                                      with_reducible rfl
                                    rotate_left
                                    · simp only [Act.put, List.setIfInBounds_toArray, List.set_cons_zero, List.set_cons_succ, i64_w, i32_w]
                                      rfl
                                    refine pure_ (i := 2) (N := some 77) (v := ?_) (a' := ?_) #[true, false, true, false, false, false, false, false, false, false] rfl rfl (any_of HT_.out (by kernel_rfl)) (fun _ _ _ h => h) (Or.inl ⟨by rfl, ?_⟩) ?_ ?_
                                    rotate_left
                                    · intro w'
                                      go_simp
                                      with_reducible rfl
                                    rotate_left
                                    · simp only [Act.put, List.setIfInBounds_toArray, List.set_cons_zero, List.set_cons_succ, i64_w, i32_w]
                                      rfl
                                    refine pure_ (i := 3) (N := some 78) (v := ?_) (a' := ?_) #[true, false, true, true, false, false, false, false, false, false] rfl rfl (any_of HT_.out (by kernel_rfl)) (fun _ _ _ h => h) (Or.inl ⟨by rfl, ?_⟩) ?_ ?_
                                    rotate_left
                                    · intro w'
                                      go_simp
                                      with_reducible rfl
                                    rotate_left
                                    · simp only [Act.put, List.setIfInBounds_toArray, List.set_cons_zero, List.set_cons_succ, i64_w, i32_w]
                                      rfl
                                    refine pure_ (i := 4) (N := some 79) (v := ?_) (a' := ?_) #[true, false, true, true, true, false, false, false, false, false] rfl rfl (any_of HT_.out (by kernel_rfl)) (fun _ _ _ h => h) (Or.inl ⟨by rfl, ?_⟩) ?_ ?_
                                    rotate_left
                                    · intro w'
                                      go_simp
                                      with_reducible rfl
                                    rotate_left
                                    · simp only [Act.put, List.setIfInBounds_toArray, List.set_cons_zero, List.set_cons_succ, i64_w, i32_w]
                                      rfl
                                    refine pure_ (i := 5) (N := some 80) (v := ?_) (a' := ?_) #[true, false, true, true, true, true, false, false, false, false] rfl rfl (any_of HT_.out (by kernel_rfl)) (fun _ _ _ h => h) (Or.inl ⟨by rfl, ?_⟩) ?_ ?_
                                    rotate_left
                                    · intro w'
                                      go_simp
                                      with_reducible rfl
                                    rotate_left
                                    · simp only [Act.put, List.setIfInBounds_toArray, List.set_cons_zero, List.set_cons_succ, i64_w, i32_w]
                                      rfl
                                    refine take_ (i := 1) (N := some 76) (v := ?_) (a' := ?_) #[true, true, true, true, true, true, false, false, false, false] rfl rfl (take_ofW HT_.out HW_.out (by kernel_rfl)) (fun _ _ _ h => h) (Or.inl ⟨by rfl, ?_⟩) hHeld ?_ ?_
                                    rotate_left
                                    · rintro w' ⟨s0, s1, s2, s3, s4, s5⟩
                                      go_simp
                                      with_reducible rfl
                                    rotate_left
                                    · simp only [Act.put, List.setIfInBounds_toArray, List.set_cons_zero, List.set_cons_succ, i64_w, i32_w]
                                      rfl
                                    refine take_ (i := 6) (N := some 81) (v := ?_) (a' := ?_) #[true, true, true, true, true, true, true, false, false, false] rfl rfl (take_ofW HT_.out HW_.out (by kernel_rfl)) (fun _ _ _ h => h) (Or.inl ⟨by rfl, ?_⟩) hHeld ?_ ?_
                                    rotate_left
                                    · rintro w' ⟨s0, s1, s2, s3, s4, s5⟩
                                      go_simp
                                      with_reducible rfl
                                    rotate_left
                                    · simp only [Act.put, List.setIfInBounds_toArray, List.set_cons_zero, List.set_cons_succ, i64_w, i32_w]
                                      rfl
                                    refine pure_ (i := 7) (N := some 82) (v := ?_) (a' := ?_) #[true, true, true, true, true, true, true, true, false, false] rfl rfl (any_of HT_.out (by kernel_rfl)) (fun _ _ _ h => h) (Or.inl ⟨by rfl, ?_⟩) ?_ ?_
                                    rotate_left
                                    · intro w'
                                      go_simp
                                      with_reducible rfl
                                    rotate_left
                                    · simp only [Act.put, List.setIfInBounds_toArray, List.set_cons_zero, List.set_cons_succ, i64_w, i32_w]
                                      rfl
                                    refine pure_ (i := 8) (N := some 83) (v := ?_) (a' := ?_) #[true, true, true, true, true, true, true, true, true, false] rfl rfl (any_of HT_.out (by kernel_rfl)) (fun _ _ _ h => h) (Or.inl ⟨by rfl, ?_⟩) ?_ ?_
                                    rotate_left
                                    · intro w'
                                      go_simp
                                      with_reducible rfl
                                    rotate_left
                                    · simp only [Act.put, List.setIfInBounds_toArray, List.set_cons_zero, List.set_cons_succ, i64_w, i32_w]
                                      rfl
                                    refine last_ (i := 9) (N := none) #[true, true, true, true, true, true, true, true, true, true] rfl rfl (one_of HT_.out (by kernel_rfl)) (by decide) (fun K hK => ?_)
                                    have hs46 : w45.cell? ⟨gb216, 2, none⟩ = some (.int .i64 ((rd_T25 l0 x13_4).f2)) := (blk_cell BK216.out 2).trans rfl
                                    have hfs46 := blk_frozen BK216.out 2
                                    refine skip_ (w1 := ?_) (by rfl) rfl ?_ ?_
                                    rotate_left
                                    · go_simp
                                      rfl
                                    refine hK.out _ _ ?_
                                    clear hK K
                                    refine done_ (done_of HT_.out (by kernel_rfl)) ?_
                                    try go_wp2
                                    go_meet
                                    case rel => exact ⟨_, (wrap64 (((rd_T25 l0 x13_4).f2) + ((rd_T25 t205 t217).f2))), H', ⟨by have := HJ3.out; have := HK2.out; have := HK3.out; have := HK4.out; first | omega | exact Nat.le_refl _⟩, ⟨by (with_reducible repeat (first | apply Kd.R_alloc | apply Kd.R_drewN | apply Kd.R_drew)); exact Kd.R_mono (Kd.R_far (p := ⟨gb216, 2, none⟩) (Kd.R_mono HO_0.out (fun k_ hk => (⟨hk, hk.2.2.2.2⟩ : _ ∧ k_ ≠ gb216))) (fun _ hk => hk.2) (.int .i64 (wrap64 (((rd_T25 l0 x13_4).f2) + ((rd_T25 t205 t217).f2))))) (fun _ hk => ⟨hk.1.1, ⟨hk.1.2.1, ⟨hk.1.2.2.1, ⟨hk.1.2.2.2.1, hk.1.2.2.2.2⟩⟩⟩⟩)⟩, ⟨by (with_reducible repeat (first | apply Kd.R_alloc | apply Kd.R_drewN | apply Kd.R_drew)); exact Kd.R_mono (Kd.R_far (p := ⟨gb216, 2, none⟩) (Kd.R_mono HO_8.out (fun k_ hk => (⟨hk, hk.2.2.2.2⟩ : _ ∧ k_ ≠ gb216))) (fun _ hk => hk.2) (.int .i64 (wrap64 (((rd_T25 l0 x13_4).f2) + ((rd_T25 t205 t217).f2))))) (fun _ hk => ⟨hk.1.1, ⟨hk.1.2.1, ⟨hk.1.2.2.1, ⟨hk.1.2.2.2.1, hk.1.2.2.2.2⟩⟩⟩⟩)⟩, ⟨by (with_reducible repeat (first | apply Kd.R_alloc | apply Kd.R_drewN | apply Kd.R_drew)); exact Kd.R_mono (Kd.R_far (p := ⟨gb216, 2, none⟩) (Kd.R_mono HO_9.out (fun k_ hk => (⟨hk, hk.2.2.2.2⟩ : _ ∧ k_ ≠ gb216))) (fun _ hk => hk.2) (.int .i64 (wrap64 (((rd_T25 l0 x13_4).f2) + ((rd_T25 t205 t217).f2))))) (fun _ hk => ⟨hk.1.1, ⟨hk.1.2.1, ⟨hk.1.2.2.1, ⟨hk.1.2.2.2.1, hk.1.2.2.2.2⟩⟩⟩⟩)⟩, ⟨by (with_reducible repeat (first | apply Kd.R_alloc | apply Kd.R_drewN | apply Kd.R_drew)); exact Kd.R_mono (Kd.R_far (p := ⟨gb216, 2, none⟩) (Kd.R_mono HO_12.out (fun k_ hk => (⟨hk, hk.2.2.2.2⟩ : _ ∧ k_ ≠ gb216))) (fun _ hk => hk.2) (.int .i64 (wrap64 (((rd_T25 l0 x13_4).f2) + ((rd_T25 t205 t217).f2))))) (fun _ hk => ⟨hk.1.1, ⟨hk.1.2.1, ⟨hk.1.2.2.1, ⟨hk.1.2.2.2.1, hk.1.2.2.2.2⟩⟩⟩⟩)⟩, ⟨by (with_reducible repeat (first | refine blk_drewN ?_ _ | refine blk_drew ?_ | refine blk_alloc ?_ _)); refine blk_put (cs := #[.int .i64 ((rd_T25 l0 x13_4).f0), .int .i64 ((rd_T25 l0 x13_4).f1), .int .i64 ((rd_T25 l0 x13_4).f2)]) ?_ 2 _ rfl; (with_reducible repeat (first | refine blk_drewN ?_ _ | refine blk_drew ?_ | refine blk_alloc ?_ _)); exact BK216.out⟩, ⟨by repeat (first | (with_reducible first | exact HK.out | apply Kept.alloc | apply Kept.drewN | apply Kept.drew | refine Kept.setCell ?_ (.inr GW216.out) _) | exact HK.out)⟩, ⟨by repeat (first | (with_reducible first | exact HB.out | apply below_alloc | apply pw_below_drewN | apply below_drew1 | refine below_set ?_ GE216.out) | exact HB.out)⟩⟩
                                  · rw [if_neg c43] at H
                                    exact absurd H (by simp)
                                · rw [if_neg c42] at H
                                  exact absurd H (by simp)
                              · rw [if_neg c41] at H
                                have c41b0 : decide (0 ≤ t217) = false := decide_eq_false c41
                                clear c41
                                (first | rw [c41b0] | (simp only [i64_w, i32_w]; rw [c41b0]) | skip)
                                have H' := Aside0.mk H
                                clear H
                                go_wp2
                                go_meet
                                case rel => exact ⟨_, ((rd_T25 l0 x13_4).f2), H', ⟨by have := HJ3.out; have := HK2.out; have := HK3.out; have := HK4.out; first | omega | exact Nat.le_refl _⟩, ⟨by (with_reducible repeat (first | apply Kd.R_alloc | apply Kd.R_drewN | apply Kd.R_drew)); exact Kd.R_mono (Kd.R_far (p := ⟨gb216, 2, none⟩) (Kd.R_far (p := ⟨gb216, 1, none⟩) (Kd.R_far (p := ⟨gb216, 0, none⟩) (Kd.R_mono HO_0.out (fun k_ hk => (⟨hk, hk.2⟩ : _ ∧ k_ ≠ gb216))) (fun _ hk => hk.2) (.int .i64 ((rd_T25 l0 x13_4).f0))) (fun _ hk => hk.2) (.int .i64 ((rd_T25 l0 x13_4).f1))) (fun _ hk => hk.2) (.int .i64 ((rd_T25 l0 x13_4).f2))) (fun _ hk => ⟨hk.1.1.1, ⟨hk.1.1.2.1, ⟨hk.1.1.2.2.1, ⟨hk.1.1.2.2.2, hk.1.2⟩⟩⟩⟩)⟩, ⟨by (with_reducible repeat (first | apply Kd.R_alloc | apply Kd.R_drewN | apply Kd.R_drew)); exact Kd.R_mono (Kd.R_far (p := ⟨gb216, 2, none⟩) (Kd.R_far (p := ⟨gb216, 1, none⟩) (Kd.R_far (p := ⟨gb216, 0, none⟩) (Kd.R_mono HO_8.out (fun k_ hk => (⟨hk, hk.2⟩ : _ ∧ k_ ≠ gb216))) (fun _ hk => hk.2) (.int .i64 ((rd_T25 l0 x13_4).f0))) (fun _ hk => hk.2) (.int .i64 ((rd_T25 l0 x13_4).f1))) (fun _ hk => hk.2) (.int .i64 ((rd_T25 l0 x13_4).f2))) (fun _ hk => ⟨hk.1.1.1, ⟨hk.1.1.2.1, ⟨hk.1.1.2.2.1, ⟨hk.1.1.2.2.2, hk.1.2⟩⟩⟩⟩)⟩, ⟨by (with_reducible repeat (first | apply Kd.R_alloc | apply Kd.R_drewN | apply Kd.R_drew)); exact Kd.R_mono (Kd.R_far (p := ⟨gb216, 2, none⟩) (Kd.R_far (p := ⟨gb216, 1, none⟩) (Kd.R_far (p := ⟨gb216, 0, none⟩) (Kd.R_mono HO_9.out (fun k_ hk => (⟨hk, hk.2⟩ : _ ∧ k_ ≠ gb216))) (fun _ hk => hk.2) (.int .i64 ((rd_T25 l0 x13_4).f0))) (fun _ hk => hk.2) (.int .i64 ((rd_T25 l0 x13_4).f1))) (fun _ hk => hk.2) (.int .i64 ((rd_T25 l0 x13_4).f2))) (fun _ hk => ⟨hk.1.1.1, ⟨hk.1.1.2.1, ⟨hk.1.1.2.2.1, ⟨hk.1.1.2.2.2, hk.1.2⟩⟩⟩⟩)⟩, ⟨by (with_reducible repeat (first | apply Kd.R_alloc | apply Kd.R_drewN | apply Kd.R_drew)); exact Kd.R_mono (Kd.R_far (p := ⟨gb216, 2, none⟩) (Kd.R_far (p := ⟨gb216, 1, none⟩) (Kd.R_far (p := ⟨gb216, 0, none⟩) (Kd.R_mono HO_12.out (fun k_ hk => (⟨hk, hk.2⟩ : _ ∧ k_ ≠ gb216))) (fun _ hk => hk.2) (.int .i64 ((rd_T25 l0 x13_4).f0))) (fun _ hk => hk.2) (.int .i64 ((rd_T25 l0 x13_4).f1))) (fun _ hk => hk.2) (.int .i64 ((rd_T25 l0 x13_4).f2))) (fun _ hk => ⟨hk.1.1.1, ⟨hk.1.1.2.1, ⟨hk.1.1.2.2.1, ⟨hk.1.1.2.2.2, hk.1.2⟩⟩⟩⟩)⟩, ⟨by (with_reducible repeat (first | refine blk_drewN ?_ _ | refine blk_drew ?_ | refine blk_alloc ?_ _)); refine blk_put (cs := #[.int .i64 ((rd_T25 l0 x13_4).f0), .int .i64 ((rd_T25 l0 x13_4).f1), .int .i64 0]) ?_ 2 _ rfl; (with_reducible repeat (first | refine blk_drewN ?_ _ | refine blk_drew ?_ | refine blk_alloc ?_ _)); refine blk_put (cs := #[.int .i64 ((rd_T25 l0 x13_4).f0), .int .i64 0, .int .i64 0]) ?_ 1 _ rfl; (with_reducible repeat (first | refine blk_drewN ?_ _ | refine blk_drew ?_ | refine blk_alloc ?_ _)); refine blk_put (cs := #[.int .i64 0, .int .i64 0, .int .i64 0]) ?_ 0 _ rfl; (with_reducible repeat (first | refine blk_drewN ?_ _ | refine blk_drew ?_ | refine blk_alloc ?_ _)); exact BK216.out⟩, ⟨by repeat (first | (with_reducible first | exact HK.out | apply Kept.alloc | apply Kept.drewN | apply Kept.drew | refine Kept.setCell ?_ (.inr GW216.out) _) | exact HK.out)⟩, ⟨by repeat (first | (with_reducible first | exact HB.out | apply below_alloc | apply pw_below_drewN | apply below_drew1 | refine below_set ?_ GE216.out) | exact HB.out)⟩⟩
                            case rest =>
                              clear HC37
                              try clear c1
                              try clear c2
                              try clear p2
                              try clear q2
                              try clear hx2
                              try clear c3
                              try clear c4
                              try clear c6
                              try clear p6
                              try clear c11
                              try clear c15
                              try clear c16
                              try clear c16b0
                              try clear c17
                              try clear c17b0
                              try clear c18
                              try clear c19
                              try clear c19b0
                              try clear p21
                              try clear q21
                              try clear hx21
                              try clear c25
                              try clear c25b0
                              try clear c26
                              try clear c26b0
                              try clear c28
                              try clear c28b0
                              try clear c34
                              try clear c34b0
                              try clear c35
                              try clear c35b0
                              try clear c38
                              try clear c41
                              try clear c41b0
                              try clear c42
                              try clear c42b0
                              try clear c43
                              try clear c43b0
                              try clear hcz40_0
                              try clear hcz40_1
                              try clear hcz40_2
                              try clear hfz40_0
                              try clear hfz40_1
                              try clear hfz40_2
                              try clear hx211_0
                              try clear hx211_1
                              try clear hx211_2
                              try clear hx213_0
                              try clear hx213_1
                              try clear hx213_2
                              try clear hx215_0
                              try clear hx215_1
                              try clear hx215_2
                              try clear hx218_0
                              try clear hx218_1
                              try clear hx218_2
                              try clear p2
                              try clear p21
                              try clear p211
                              try clear p213
                              try clear p215
                              try clear p218
                              try clear p6
                              try clear q2
                              try clear q21
                              try clear q211
                              try clear q213
                              try clear q215
                              try clear q218
                              obtain ⟨kq, x217002_36, HA, HJ36, HO_0, HO_8, HO_9, HO_12, BK216, HK, HB⟩ := hcut
                              cases kq with
                              | zero => exact absurd HA.out (by simp [lighterref08_Change.j4])
                              | succ kj36 =>
                                have H := HA.out
                                clear HA
                                simp only [lighterref08_Change.j4] at H
                                replace H := Option.bind_eq_some_iff.mp H
                                obtain ⟨t219, A470, H⟩ := H
                                replace H : (if t219 ≥ 0 then (if 0 ≤ t219 then (if t219 < (t208.length : Int) then ((lighterref08_May.f ((rd_T25 l0 x13_4).f0) ((rd_T25 l0 x13_4).f1) (wrap64 (x217002_36 - ((rd_T25 t208 t219).f2)))).bind fun t221 => (if t221 = true then (if x12_4.length < 5864062014805 then (lighterref08_Change.l2 kj36 l0 t205 t208 (x12_4 ++ [(⟨((rd_T25 l0 x13_4).f0), ((rd_T25 l0 x13_4).f1), wrap64 (x217002_36 - ((rd_T25 t208 t219).f2))⟩ : S25)]) (wrap64 (x13_4 + 1))) else (none)) else (some (l0, 31)))) else (none)) else (none)) else ((lighterref08_May.f ((rd_T25 l0 x13_4).f0) ((rd_T25 l0 x13_4).f1) x217002_36).bind fun t225 => (if t225 = true then (if x12_4.length < 5864062014805 then (lighterref08_Change.l2 kj36 l0 t205 t208 (x12_4 ++ [(⟨((rd_T25 l0 x13_4).f0), ((rd_T25 l0 x13_4).f1), x217002_36⟩ : S25)]) (wrap64 (x13_4 + 1))) else (none)) else (some (l0, 31))))) = some (r1, r2) := H
                                have A47 := Aside0.mk A470
                                clear A470
                                by_cases c48 : t219 ≥ 0
                                · rw [if_pos c48] at H
                                  have c48b0 : decide (0 ≤ t219) = true := decide_eq_true c48
                                  clear c48
                                  by_cases c49 : 0 ≤ t219
                                  · rw [if_pos c49] at H
                                    have c49b0 : decide (0 ≤ t219) = true := decide_eq_true c49
                                    clear c49
                                    by_cases c50 : t219 < (t208.length : Int)
                                    · rw [if_pos c50] at H
                                      have c50b0 : decide (t219 < (t208.length : Int)) = true := decide_eq_true c50
                                      clear c50
                                      replace H := Option.bind_eq_some_iff.mp H
                                      obtain ⟨t221, A510, H⟩ := H
                                      replace H : (if t221 = true then (if x12_4.length < 5864062014805 then (lighterref08_Change.l2 kj36 l0 t205 t208 (x12_4 ++ [(⟨((rd_T25 l0 x13_4).f0), ((rd_T25 l0 x13_4).f1), wrap64 (x217002_36 - ((rd_T25 t208 t219).f2))⟩ : S25)]) (wrap64 (x13_4 + 1))) else (none)) else (some (l0, 31))) = some (r1, r2) := H
                                      have A51 := Aside0.mk A510
                                      clear A510
                                      by_cases c52 : t221 = true
                                      · subst c52
                                        have H1 : (if x12_4.length < 5864062014805 then (lighterref08_Change.l2 kj36 l0 t205 t208 (x12_4 ++ [(⟨((rd_T25 l0 x13_4).f0), ((rd_T25 l0 x13_4).f1), wrap64 (x217002_36 - ((rd_T25 t208 t219).f2))⟩ : S25)]) (wrap64 (x13_4 + 1))) else (none)) = some (r1, r2) := by rw [if_pos rfl] at H; exact H
                                        clear H
                                        have H := H1
                                        clear H1
                                        by_cases c53 : x12_4.length < 5864062014805
                                        · rw [if_pos c53] at H
                                          have LMc53 := Aside0.mk c53
                                          clear c53
                                          obtain ⟨y222, hy222⟩ : ∃ y_ : List (S25), y_ = (x12_4 ++ [(⟨((rd_T25 l0 x13_4).f0), ((rd_T25 l0 x13_4).f1), wrap64 (x217002_36 - ((rd_T25 t208 t219).f2))⟩ : S25)]) := ⟨_, rfl⟩
                                          replace H : (lighterref08_Change.l2 kj36 l0 t205 t208 y222 (wrap64 (x13_4 + 1))) = some (r1, r2) := by first | (rw [hy222]; with_reducible exact H) | (have H2_ := (Option.bind_some _ _).symm.trans H; rw [hy222]; with_reducible exact H2_) | (have H2_ := (Option.bind_some _ _).symm.trans H; with_reducible exact H2_) | with_reducible exact H | (rw [hy222]; exact H) | exact H
                                          have Ny222 := Aside0.mk hy222
                                          clear hy222
                                          have H' := Aside0.mk H
                                          clear H
                                          have hcz54_0 : wc.cell? ⟨gb216, 0, none⟩ = some (.int .i64 ((rd_T25 l0 x13_4).f0)) := (blk_cell BK216.out 0).trans rfl
                                          have hcz54_1 : wc.cell? ⟨gb216, 1, none⟩ = some (.int .i64 ((rd_T25 l0 x13_4).f1)) := (blk_cell BK216.out 1).trans rfl
                                          have hcz54_2 : wc.cell? ⟨gb216, 2, none⟩ = some (.int .i64 x217002_36) := (blk_cell BK216.out 2).trans rfl
                                          have hfz54_0 := blk_frozen BK216.out 0
                                          have hfz54_1 := blk_frozen BK216.out 1
                                          have hfz54_2 := blk_frozen BK216.out 2
                                          try go_wp2_with (first | ((with_reducible refine gate_callee (f := 34) rfl ?_); refine goesL_ (some 87) rfl rfl Try.func34 (by kernel_rfl) rfl #[.slice Ao33 t208.length co33, .int .i64 ((rd_T25 l0 x13_4).f0)] rfl (by (try simp only [List.map_toArray, List.map_cons, List.map_nil]); first | done | rfl | (simp only [List.length_drop, List.length_take]; rfl)) ?_; (with_reducible refine (lighterref08_Find.calls kj36 _ _ t208 ((rd_T25 l0 x13_4).f0) t219 _ ?side1 ?side2 A47.out).mono ?_); (case side1 => repeat (first | exact (Kd.R_reads' HO_9.out).2.2 | (with_reducible refine Kd.C_alloc ?_ _) | (with_reducible refine Kd.C_drewN ?_ _) | (with_reducible refine Kd.C_drew ?_))); (case side2 => exact (Kd.R_reads' HO_9.out).2.1); rintro e w' ⟨rfl, ⟨nd, rfl⟩⟩; refine ⟨_, rfl, ?_⟩; (try (rw [drewN_self wc]; generalize hq_ : World.drewN wc _ = wc; have n0_ : Aside0 (Kd.R k25 25 wc w0.heap.size (fun k_ => (P0_ k_ ∨ w.heap.size ≤ k_) ∧ some k_ ≠ (u12 : Value).ownBlock ∧ some k_ ≠ (.slice Ao24 t205.length co24 : Value).ownBlock ∧ some k_ ≠ (.slice Ao33 t208.length co33 : Value).ownBlock ∧ k_ ≠ gb216) (.slice (some ad215) l0.length co38) l0) := ⟨by rw [← hq_]; exact (by (with_reducible repeat (first | apply Kd.R_alloc | apply Kd.R_drewN | apply Kd.R_drew)); exact Kd.R_mono HO_0.out (fun _ hk => ⟨hk.1, ⟨hk.2.2.2.1, ⟨hk.2.1, ⟨hk.2.2.1, hk.2.2.2.2⟩⟩⟩⟩))⟩; have n1_ : Aside0 (Kd.R k25 25 wc w0.heap.size (fun k_ => (P0_ k_ ∨ w.heap.size ≤ k_) ∧ some k_ ≠ (.slice (some ad215) l0.length co38 : Value).ownBlock ∧ some k_ ≠ (.slice Ao24 t205.length co24 : Value).ownBlock ∧ some k_ ≠ (.slice Ao33 t208.length co33 : Value).ownBlock ∧ k_ ≠ gb216) u12 x12_4) := ⟨by rw [← hq_]; exact (by (with_reducible repeat (first | apply Kd.R_alloc | apply Kd.R_drewN | apply Kd.R_drew)); exact HO_12.out)⟩; have n2_ : Aside0 (Kd.R k25 25 wc w0.heap.size (fun k_ => (P0_ k_ ∨ w.heap.size ≤ k_) ∧ some k_ ≠ (.slice (some ad215) l0.length co38 : Value).ownBlock ∧ some k_ ≠ (u12 : Value).ownBlock ∧ some k_ ≠ (.slice Ao33 t208.length co33 : Value).ownBlock ∧ k_ ≠ gb216) (.slice Ao24 t205.length co24) t205) := ⟨by rw [← hq_]; exact (by (with_reducible repeat (first | apply Kd.R_alloc | apply Kd.R_drewN | apply Kd.R_drew)); exact Kd.R_mono HO_8.out (fun _ hk => ⟨hk.1, ⟨hk.2.1, ⟨hk.2.2.2.1, ⟨hk.2.2.1, hk.2.2.2.2⟩⟩⟩⟩))⟩; have n3_ : Aside0 (Kd.R k25 25 wc w0.heap.size (fun k_ => (P0_ k_ ∨ w.heap.size ≤ k_) ∧ some k_ ≠ (.slice (some ad215) l0.length co38 : Value).ownBlock ∧ some k_ ≠ (u12 : Value).ownBlock ∧ some k_ ≠ (.slice Ao24 t205.length co24 : Value).ownBlock ∧ k_ ≠ gb216) (.slice Ao33 t208.length co33) t208) := ⟨by rw [← hq_]; exact (by (with_reducible repeat (first | apply Kd.R_alloc | apply Kd.R_drewN | apply Kd.R_drew)); exact Kd.R_mono HO_9.out (fun _ hk => ⟨hk.1, ⟨hk.2.1, ⟨hk.2.2.2.1, ⟨hk.2.2.1, hk.2.2.2.2⟩⟩⟩⟩))⟩; have n4_ : Aside0 (wc.heap[gb216]? = some (.cells #[.int .i64 ((rd_T25 l0 x13_4).f0), .int .i64 ((rd_T25 l0 x13_4).f1), .int .i64 x217002_36] 25 (0, 0))) := ⟨by rw [← hq_]; exact (by (with_reducible repeat (first | refine blk_drewN ?_ _ | refine blk_drew ?_ | refine blk_alloc ?_ _)); exact BK216.out)⟩; have n5_ : Aside0 (Kept w wc (fun k_ => P0_ k_)) := ⟨by rw [← hq_]; exact (by repeat (first | (with_reducible first | exact HK.out | apply Kept.alloc | apply Kept.drewN | apply Kept.drew | refine Kept.setCell ?_ (.inr GW216.out) _) | exact HK.out))⟩; have n6_ : Aside0 (Below w0.heap.size w0 wc) := ⟨by rw [← hq_]; exact (by repeat (first | (with_reducible first | exact HB.out | apply below_alloc | apply pw_below_drewN | apply below_drew1 | refine below_set ?_ GE216.out) | exact HB.out))⟩; clear HO_0 HO_12 HO_8 HO_9 BK216 HK HB hq_; have HO_0 := n0_; have HO_12 := n1_; have HO_8 := n2_; have HO_9 := n3_; have BK216 := n4_; have HK := n5_; have HB := n6_; clear n0_ n1_ n2_ n3_ n4_ n5_ n6_))))
                                          have n0_ := Aside0.mk (Kd.R_drew HO_0.out)
                                          have n1_ := Aside0.mk (Kd.R_drew HO_8.out)
                                          have n2_ := Aside0.mk (Kd.R_drew HO_9.out)
                                          have n3_ := Aside0.mk (Kd.R_drew HO_12.out)
                                          have n4_ := Aside0.mk (blk_drew BK216.out)
                                          have n5_ := Aside0.mk (Kept.drew HK.out)
                                          have n6_ := Aside0.mk (below_drew1 HB.out)
                                          clear HO_0
                                          clear HO_8
                                          clear HO_9
                                          clear HO_12
                                          clear BK216
                                          clear HK
                                          clear HB
                                          have HO_0 := n0_
                                          have HO_8 := n1_
                                          have HO_9 := n2_
                                          have HO_12 := n3_
                                          have BK216 := n4_
                                          have HK := n5_
                                          have HB := n6_
                                          clear n0_ n1_ n2_ n3_ n4_ n5_ n6_
                                          have p220 : 0 ≤ (t219 : Int) := of_decide_eq_true (by first | (with_reducible assumption) | assumption)
                                          have q220 : t219 < (t208.length : Int) := of_decide_eq_true (by first | (with_reducible assumption) | assumption)
                                          obtain ⟨ad220, e220, hx220_0, hx220_1, hx220_2⟩ := at_T25 (Kd.R_reads' HO_9.out).2.2 t219 p220 q220
                                          cases e220
                                          replace p220 := eq_true p220
                                          replace q220 := eq_true q220
                                          refine start_ (n := 10) (S := fun w' => w'.cell? ⟨gb216, 0, none⟩ = some (.int .i64 ((rd_T25 l0 x13_4).f0)) ∧ w'.cell? ⟨gb216, 1, none⟩ = some (.int .i64 ((rd_T25 l0 x13_4).f1)) ∧ w'.cell? ⟨gb216, 2, none⟩ = some (.int .i64 x217002_36) ∧ w'.cell? (ad220.add ((t219).toNat * 3)) = some (.int .i64 ((rd_T25 t208 t219).f0)) ∧ w'.cell? ⟨(ad220.add ((t219).toNat * 3)).block, (ad220.add ((t219).toNat * 3)).off + 1, none⟩ = some (.int .i64 ((rd_T25 t208 t219).f1)) ∧ w'.cell? ⟨(ad220.add ((t219).toNat * 3)).block, (ad220.add ((t219).toNat * 3)).off + 2, none⟩ = some (.int .i64 ((rd_T25 t208 t219).f2))) (ds := [9]) #[false, false, false, false, false, false, false, false, false, false] (by kernel_rfl) rfl rfl ⟨(blk_cell BK216.out 0).trans rfl, (blk_cell BK216.out 1).trans rfl, (blk_cell BK216.out 2).trans rfl, hx220_0, hx220_1, hx220_2⟩ (fun hHeld => ?_); refine with_tabW lighterref08_Change.tab25 lighterref08_Change.bits25 (fun HT_ HW_ => ?_)
                                          generalize wc.drew = w55 at HO_0 HO_8 HO_9 HO_12 BK216 HK HB hx220_0 hx220_1 hx220_2 hHeld ⊢
                                          refine pure_ (i := 0) (N := some 90) (v := ?_) (a' := ?_) #[true, false, false, false, false, false, false, false, false, false] rfl rfl (any_of HT_.out (by kernel_rfl)) (fun _ _ _ h => h) (Or.inl ⟨by rfl, ?_⟩) ?_ ?_
                                          rotate_left
                                          · intro w'
                                            go_simp
                                            with_reducible rfl
                                          rotate_left
                                          · simp only [Act.put, List.setIfInBounds_toArray, List.set_cons_zero, List.set_cons_succ, i64_w, i32_w]
                                            rfl
                                          refine pure_ (i := 2) (N := some 92) (v := ?_) (a' := ?_) #[true, false, true, false, false, false, false, false, false, false] rfl rfl (any_of HT_.out (by kernel_rfl)) (fun _ _ _ h => h) (Or.inl ⟨by rfl, ?_⟩) ?_ ?_
                                          rotate_left
                                          · intro w'
                                            go_simp
                                            with_reducible rfl
                                          rotate_left
                                          · simp only [Act.put, List.setIfInBounds_toArray, List.set_cons_zero, List.set_cons_succ, i64_w, i32_w]
                                            rfl
                                          refine pure_ (i := 3) (N := some 93) (v := ?_) (a' := ?_) #[true, false, true, true, false, false, false, false, false, false] rfl rfl (any_of HT_.out (by kernel_rfl)) (fun _ _ _ h => h) (Or.inl ⟨by rfl, ?_⟩) ?_ ?_
                                          rotate_left
                                          · intro w'
                                            go_simp
                                            with_reducible rfl
                                          rotate_left
                                          · simp only [Act.put, List.setIfInBounds_toArray, List.set_cons_zero, List.set_cons_succ, i64_w, i32_w]
                                            rfl
                                          refine pure_ (i := 4) (N := some 94) (v := ?_) (a' := ?_) #[true, false, true, true, true, false, false, false, false, false] rfl rfl (any_of HT_.out (by kernel_rfl)) (fun _ _ _ h => h) (Or.inl ⟨by rfl, ?_⟩) ?_ ?_
                                          rotate_left
                                          · intro w'
                                            go_simp
                                            with_reducible rfl
                                          rotate_left
                                          · simp only [Act.put, List.setIfInBounds_toArray, List.set_cons_zero, List.set_cons_succ, i64_w, i32_w]
                                            rfl
                                          refine pure_ (i := 5) (N := some 95) (v := ?_) (a' := ?_) #[true, false, true, true, true, true, false, false, false, false] rfl rfl (any_of HT_.out (by kernel_rfl)) (fun _ _ _ h => h) (Or.inl ⟨by rfl, ?_⟩) ?_ ?_
                                          rotate_left
                                          · intro w'
                                            go_simp
                                            with_reducible rfl
                                          rotate_left
                                          · simp only [Act.put, List.setIfInBounds_toArray, List.set_cons_zero, List.set_cons_succ, i64_w, i32_w]
                                            rfl
                                          refine take_ (i := 1) (N := some 91) (v := ?_) (a' := ?_) #[true, true, true, true, true, true, false, false, false, false] rfl rfl (take_ofW HT_.out HW_.out (by kernel_rfl)) (fun _ _ _ h => h) (Or.inl ⟨by rfl, ?_⟩) hHeld ?_ ?_
                                          rotate_left
                                          · rintro w' ⟨s0, s1, s2, s3, s4, s5⟩
                                            go_simp
                                            with_reducible rfl
                                          rotate_left
                                          · simp only [Act.put, List.setIfInBounds_toArray, List.set_cons_zero, List.set_cons_succ, i64_w, i32_w]
                                            rfl
                                          refine take_ (i := 6) (N := some 96) (v := ?_) (a' := ?_) #[true, true, true, true, true, true, true, false, false, false] rfl rfl (take_ofW HT_.out HW_.out (by kernel_rfl)) (fun _ _ _ h => h) (Or.inl ⟨by rfl, ?_⟩) hHeld ?_ ?_
                                          rotate_left
                                          · rintro w' ⟨s0, s1, s2, s3, s4, s5⟩
                                            go_simp
                                            with_reducible rfl
                                          rotate_left
                                          · simp only [Act.put, List.setIfInBounds_toArray, List.set_cons_zero, List.set_cons_succ, i64_w, i32_w]
                                            rfl
                                          refine pure_ (i := 7) (N := some 97) (v := ?_) (a' := ?_) #[true, true, true, true, true, true, true, true, false, false] rfl rfl (any_of HT_.out (by kernel_rfl)) (fun _ _ _ h => h) (Or.inl ⟨by rfl, ?_⟩) ?_ ?_
                                          rotate_left
                                          · intro w'
                                            go_simp
                                            with_reducible rfl
                                          rotate_left
                                          · simp only [Act.put, List.setIfInBounds_toArray, List.set_cons_zero, List.set_cons_succ, i64_w, i32_w]
                                            rfl
                                          refine pure_ (i := 8) (N := some 98) (v := ?_) (a' := ?_) #[true, true, true, true, true, true, true, true, true, false] rfl rfl (any_of HT_.out (by kernel_rfl)) (fun _ _ _ h => h) (Or.inl ⟨by rfl, ?_⟩) ?_ ?_
                                          rotate_left
                                          · intro w'
                                            go_simp
                                            with_reducible rfl
                                          rotate_left
                                          · simp only [Act.put, List.setIfInBounds_toArray, List.set_cons_zero, List.set_cons_succ, i64_w, i32_w]
                                            rfl
                                          refine last_ (i := 9) (N := none) #[true, true, true, true, true, true, true, true, true, true] rfl rfl (one_of HT_.out (by kernel_rfl)) (by decide) (fun K hK => ?_)
                                          have hs56 : w55.cell? ⟨gb216, 2, none⟩ = some (.int .i64 x217002_36) := (blk_cell BK216.out 2).trans rfl
                                          have hfs56 := blk_frozen BK216.out 2
                                          refine skip_ (w1 := ?_) (by rfl) rfl ?_ ?_
                                          rotate_left
                                          · go_simp
                                            rfl
                                          refine hK.out _ _ ?_
                                          clear hK K
                                          refine done_ (done_of HT_.out (by kernel_rfl)) ?_
                                          have hcz57_0 : w55.cell? ⟨gb216, 0, none⟩ = some (.int .i64 ((rd_T25 l0 x13_4).f0)) := (blk_cell BK216.out 0).trans rfl
                                          have hcz57_1 : w55.cell? ⟨gb216, 1, none⟩ = some (.int .i64 ((rd_T25 l0 x13_4).f1)) := (blk_cell BK216.out 1).trans rfl
                                          have hcz57_2 : w55.cell? ⟨gb216, 2, none⟩ = some (.int .i64 x217002_36) := (blk_cell BK216.out 2).trans rfl
                                          have hfz57_0 := blk_frozen BK216.out 0
                                          have hfz57_1 := blk_frozen BK216.out 1
                                          have hfz57_2 := blk_frozen BK216.out 2
                                          try go_wp2_with (first | ((with_reducible refine gate_callee (f := 11) rfl ?_); refine goesL_ (some 100) rfl rfl Try.func11 (by kernel_rfl) rfl #[.agg #[.int .i64 ((rd_T25 l0 x13_4).f0), .int .i64 ((rd_T25 l0 x13_4).f1), .int .i64 (wrap64 (x217002_36 - ((rd_T25 t208 t219).f2)))]] rfl (by (try simp only [List.map_toArray, List.map_cons, List.map_nil]); first | done | rfl | (simp only [List.length_drop, List.length_take]; rfl)) ?_; (with_reducible refine (lighterref08_May.calls ((rd_T25 l0 x13_4).f0) ((rd_T25 l0 x13_4).f1) (wrap64 (x217002_36 - ((rd_T25 t208 t219).f2))) true _ A51.out).mono ?_); rintro e w58 ⟨rfl, hb⟩; refine ⟨_, rfl, ?_⟩; have n0_ := Aside0.mk (Kd.R_below (by (with_reducible repeat (first | apply Kd.R_alloc | apply Kd.R_drewN | apply Kd.R_drew)); exact (Kd.R_mono (Kd.R_far (p := ⟨gb216, 2, none⟩) (Kd.R_mono HO_0.out (fun k_ hk => (⟨hk, hk.2.2.2.2⟩ : _ ∧ k_ ≠ gb216))) (fun _ hk => hk.2) (.int .i64 (wrap64 (x217002_36 - ((rd_T25 t208 t219).f2))))) (fun _ h_ => h_.1))) hb); have n1_ := Aside0.mk (Kd.R_below (by (with_reducible repeat (first | apply Kd.R_alloc | apply Kd.R_drewN | apply Kd.R_drew)); exact (Kd.R_mono (Kd.R_far (p := ⟨gb216, 2, none⟩) (Kd.R_mono HO_8.out (fun k_ hk => (⟨hk, hk.2.2.2.2⟩ : _ ∧ k_ ≠ gb216))) (fun _ hk => hk.2) (.int .i64 (wrap64 (x217002_36 - ((rd_T25 t208 t219).f2))))) (fun _ h_ => h_.1))) hb); have n2_ := Aside0.mk (Kd.R_below (by (with_reducible repeat (first | apply Kd.R_alloc | apply Kd.R_drewN | apply Kd.R_drew)); exact (Kd.R_mono (Kd.R_far (p := ⟨gb216, 2, none⟩) (Kd.R_mono HO_9.out (fun k_ hk => (⟨hk, hk.2.2.2.2⟩ : _ ∧ k_ ≠ gb216))) (fun _ hk => hk.2) (.int .i64 (wrap64 (x217002_36 - ((rd_T25 t208 t219).f2))))) (fun _ h_ => h_.1))) hb); have n3_ := Aside0.mk (Kd.R_below (by (with_reducible repeat (first | apply Kd.R_alloc | apply Kd.R_drewN | apply Kd.R_drew)); exact (Kd.R_mono (Kd.R_far (p := ⟨gb216, 2, none⟩) (Kd.R_mono HO_12.out (fun k_ hk => (⟨hk, hk.2.2.2.2⟩ : _ ∧ k_ ≠ gb216))) (fun _ hk => hk.2) (.int .i64 (wrap64 (x217002_36 - ((rd_T25 t208 t219).f2))))) (fun _ h_ => h_.1))) hb); have n4_ := Aside0.mk (blk_below (g := gb216) (o := .cells #[.int .i64 ((rd_T25 l0 x13_4).f0), .int .i64 ((rd_T25 l0 x13_4).f1), .int .i64 (wrap64 (x217002_36 - ((rd_T25 t208 t219).f2)))] 25 (0, 0)) (by (with_reducible repeat (first | refine blk_drewN ?_ _ | refine blk_drew ?_ | refine blk_alloc ?_ _)); refine blk_put (cs := #[.int .i64 ((rd_T25 l0 x13_4).f0), .int .i64 ((rd_T25 l0 x13_4).f1), .int .i64 x217002_36]) ?_ 2 _ rfl; (with_reducible repeat (first | refine blk_drewN ?_ _ | refine blk_drew ?_ | refine blk_alloc ?_ _)); exact BK216.out) hb); have n5_ := Aside0.mk (Kept.below (S := (fun k_ => P0_ k_)) (by repeat (first | (with_reducible first | exact HK.out | apply Kept.alloc | apply Kept.drewN | apply Kept.drew | refine Kept.setCell ?_ (.inr GW216.out) _) | exact HK.out)) hb); have n6_ := Aside0.mk (below_step (by repeat (first | (with_reducible first | exact HB.out | apply below_alloc | apply pw_below_drewN | apply below_drew1 | refine below_set ?_ GE216.out) | exact HB.out)) hb); clear HO_0; clear HO_8; clear HO_9; clear HO_12; clear BK216; clear HK; clear HB; have HO_0 := n0_; have HO_8 := n1_; have HO_9 := n2_; have HO_12 := n3_; have BK216 := n4_; have HK := n5_; have HB := n6_; clear n0_ n1_ n2_ n3_ n4_ n5_ n6_; (try clear hb); (try clear hb2); (try clear hk); (try clear hi); have hcz59_0 : w58.cell? ⟨gb216, 0, none⟩ = some (.int .i64 ((rd_T25 l0 x13_4).f0)) := (blk_cell BK216.out 0).trans rfl; have hcz59_1 : w58.cell? ⟨gb216, 1, none⟩ = some (.int .i64 ((rd_T25 l0 x13_4).f1)) := (blk_cell BK216.out 1).trans rfl; have hcz59_2 : w58.cell? ⟨gb216, 2, none⟩ = some (.int .i64 (wrap64 (x217002_36 - ((rd_T25 t208 t219).f2)))) := (blk_cell BK216.out 2).trans rfl; have hfz59_0 := blk_frozen BK216.out 0; have hfz59_1 := blk_frozen BK216.out 1; have hfz59_2 := blk_frozen BK216.out 2) | ((with_reducible refine gate_builtin (b := .append) (xs := #[.tmp 103, .tmp 105]) rfl ?_); at_builtin; (refine Kd.R_append k25 (w0 := w0) w0.heap.size rfl (.tmp 103) (.tmp 105) 26 25 (.agg #[(.int .i64 0), (.int .i64 0), (.int .i64 0)]) 24 rfl Try.underlying26 info25 rfl (by decide) (by omega) u12 x12_4 (⟨((rd_T25 l0 x13_4).f0), ((rd_T25 l0 x13_4).f1), wrap64 (x217002_36 - ((rd_T25 t208 t219).f2))⟩ : S25) [.int .i64 ((rd_T25 l0 x13_4).f0), .int .i64 ((rd_T25 l0 x13_4).f1), .int .i64 (wrap64 (x217002_36 - ((rd_T25 t208 t219).f2)))] (fun k_ => (P0_ k_ ∨ w.heap.size ≤ k_) ∧ some k_ ≠ (.slice (some ad215) l0.length co38 : Value).ownBlock ∧ some k_ ≠ (.slice Ao24 t205.length co24 : Value).ownBlock ∧ some k_ ≠ (.slice (some ad220) t208.length co33 : Value).ownBlock ∧ k_ ≠ gb216) (fun _ => False) rfl rfl ?aP (fun _ hk => hk.elim) ?aF ?aO ?aB ?aS ?aL ?_); (case aP => exact k25_mkM _ _ _ (⟨((rd_T25 l0 x13_4).f0), ((rd_T25 l0 x13_4).f1), wrap64 (x217002_36 - ((rd_T25 t208 t219).f2))⟩ : S25)); (case aB => exact (by repeat (first | (with_reducible first | exact HB.out | apply below_alloc | apply pw_below_drewN | apply below_drew1 | refine below_set ?_ GE216.out) | exact HB.out))); (case aF => exact (fun k_ hk => ⟨(.inr (Nat.le_trans (by first | exact HK.out.1 | exact (show Kept w _ (fun k_ => P0_ k_) from by repeat (first | (with_reducible first | exact HK.out | apply Kept.alloc | apply Kept.drewN | apply Kept.drew | refine Kept.setCell ?_ (.inr GW216.out) _) | exact HK.out)).1) hk)), Kd.fresh' (Kd.R_lt (by (with_reducible repeat (first | apply Kd.R_alloc | apply Kd.R_drewN | apply Kd.R_drew)); exact HO_0.out)) k_ hk, Kd.fresh' (Kd.R_lt (by (with_reducible repeat (first | apply Kd.R_alloc | apply Kd.R_drewN | apply Kd.R_drew)); exact HO_8.out)) k_ hk, Kd.fresh' (Kd.R_lt (by (with_reducible repeat (first | apply Kd.R_alloc | apply Kd.R_drewN | apply Kd.R_drew)); exact HO_9.out)) k_ hk, Kd.freshB (g := gb216) (o := .cells #[.int .i64 ((rd_T25 l0 x13_4).f0), .int .i64 ((rd_T25 l0 x13_4).f1), .int .i64 (wrap64 (x217002_36 - ((rd_T25 t208 t219).f2)))] 25 (0, 0)) (by (with_reducible repeat (first | refine blk_drewN ?_ _ | refine blk_drew ?_ | refine blk_alloc ?_ _)); exact BK216.out) k_ hk⟩)); (case aO => exact (by (with_reducible repeat (first | apply Kd.R_alloc | apply Kd.R_drewN | apply Kd.R_drew)); exact HO_12.out)); (case aS => exact (below_size (by repeat (first | (with_reducible first | exact HB.out | apply below_alloc | apply pw_below_drewN | apply below_drew1 | refine below_set ?_ GE216.out) | exact HB.out)))); (case aL => have := LMc53.out; omega); intro v223 w60 ho hb hg hat; rw [← Ny222.out] at ho; have n0_ := Aside0.mk (Kd.R_after (ok := (fun k_ => (P0_ k_ ∨ w.heap.size ≤ k_) ∧ some k_ ≠ (.slice Ao24 t205.length co24 : Value).ownBlock ∧ some k_ ≠ (.slice (some ad220) t208.length co33 : Value).ownBlock ∧ k_ ≠ gb216)) (by (with_reducible repeat (first | apply Kd.R_alloc | apply Kd.R_drewN | apply Kd.R_drew)); exact Kd.R_mono HO_0.out (fun _ hk => by (obtain ⟨q1_, q2_, q3_, q4_, q5_⟩ := hk; refine ⟨⟨?_, ?_, ?_, ?_⟩, ?_⟩ <;> assumption))) hg hat); have n1_ := Aside0.mk (Kd.R_after (ok := (fun k_ => (P0_ k_ ∨ w.heap.size ≤ k_) ∧ some k_ ≠ (.slice (some ad215) l0.length co38 : Value).ownBlock ∧ some k_ ≠ (.slice (some ad220) t208.length co33 : Value).ownBlock ∧ k_ ≠ gb216)) (by (with_reducible repeat (first | apply Kd.R_alloc | apply Kd.R_drewN | apply Kd.R_drew)); exact Kd.R_mono HO_8.out (fun _ hk => by (obtain ⟨q1_, q2_, q3_, q4_, q5_⟩ := hk; refine ⟨⟨?_, ?_, ?_, ?_⟩, ?_⟩ <;> assumption))) hg hat); have n2_ := Aside0.mk (Kd.R_after (ok := (fun k_ => (P0_ k_ ∨ w.heap.size ≤ k_) ∧ some k_ ≠ (.slice (some ad215) l0.length co38 : Value).ownBlock ∧ some k_ ≠ (.slice Ao24 t205.length co24 : Value).ownBlock ∧ k_ ≠ gb216)) (by (with_reducible repeat (first | apply Kd.R_alloc | apply Kd.R_drewN | apply Kd.R_drew)); exact Kd.R_mono HO_9.out (fun _ hk => by (obtain ⟨q1_, q2_, q3_, q4_, q5_⟩ := hk; refine ⟨⟨?_, ?_, ?_, ?_⟩, ?_⟩ <;> assumption))) hg hat); have n3_ := Aside0.mk (blk_grown (g := gb216) (o := .cells #[.int .i64 ((rd_T25 l0 x13_4).f0), .int .i64 ((rd_T25 l0 x13_4).f1), .int .i64 (wrap64 (x217002_36 - ((rd_T25 t208 t219).f2)))] 25 (0, 0)) (by (with_reducible repeat (first | refine blk_drewN ?_ _ | refine blk_drew ?_ | refine blk_alloc ?_ _)); exact BK216.out) hg (Kd.R_away HO_12.out (fun _ hk => hk.2.2.2.2))); have n4_ := Aside0.mk (hb); have n5_ := Aside0.mk (Kept.of_grown (S := (fun k_ => P0_ k_)) hg (by repeat (first | (with_reducible first | exact HK.out | apply Kept.alloc | apply Kept.drewN | apply Kept.drew | refine Kept.setCell ?_ (.inr GW216.out) _) | exact HK.out)) (fun k_ e_ => (HO_12.out.1 k_ e_).1)); have n6_ := Aside0.mk (ho); clear HO_0; clear HO_8; clear HO_9; clear BK216; clear HB; clear HK; clear HO_12; have HO_0 := n0_; have HO_8 := n1_; have HO_9 := n2_; have BK216 := n3_; have HB := n4_; have HK := n5_; have HO224 := n6_; clear n0_ n1_ n2_ n3_ n4_ n5_ n6_; clear ho hb hg hat))
                                          go_roundg kj36
                                          case measure => have := HJ3.out; have := HK2.out; have := HK3.out; have := HK4.out; have := HJ36.out; omega
                                          case rel => exact ⟨(y222), (wrap64 (x13_4 + 1)), (by first | rfl | (simp; done) | (simp [*]; done)), H', ⟨by have := HJ3.out; have := HK2.out; have := HK3.out; have := HK4.out; have := HJ36.out; omega⟩, ⟨by (with_reducible repeat (first | apply Kd.R_alloc | apply Kd.R_drewN | apply Kd.R_drew)); exact Kd.R_mono HO_0.out (fun _ hk => ⟨hk.1.1, ⟨hk.1.2.1, ⟨hk.1.2.2.1, hk.2⟩⟩⟩)⟩, ⟨by (with_reducible repeat (first | apply Kd.R_alloc | apply Kd.R_drewN | apply Kd.R_drew)); exact Kd.R_mono HO_8.out (fun _ hk => ⟨hk.1.1, ⟨hk.1.2.1, ⟨hk.1.2.2.1, hk.2⟩⟩⟩)⟩, ⟨by (with_reducible repeat (first | apply Kd.R_alloc | apply Kd.R_drewN | apply Kd.R_drew)); exact Kd.R_mono HO_9.out (fun _ hk => ⟨hk.1.1, ⟨hk.1.2.1, ⟨hk.1.2.2.1, hk.2⟩⟩⟩)⟩, ⟨by (with_reducible repeat (first | apply Kd.R_alloc | apply Kd.R_drewN | apply Kd.R_drew)); exact Kd.R_mono HO224.out (fun _ hk => ⟨hk.1, ⟨hk.2.1, ⟨hk.2.2.1, hk.2.2.2.1⟩⟩⟩)⟩, ⟨by repeat (first | (with_reducible first | exact HK.out | apply Kept.alloc | apply Kept.drewN | apply Kept.drew | refine Kept.setCell ?_ (.inr GW216.out) _) | exact HK.out)⟩, ⟨by repeat (first | (with_reducible first | exact HB.out | apply below_alloc | apply pw_below_drewN | apply below_drew1 | refine below_set ?_ GE216.out) | exact HB.out)⟩⟩
                                        · rw [if_neg c53] at H
                                          exact absurd H (by simp)
                                      · replace c52 := Bool.eq_false_iff.mpr c52
                                        subst c52
                                        have H1 : (some (l0, 31)) = some (r1, r2) := by rw [if_neg (show ¬ (false = true) by decide)] at H; exact H
                                        clear H
                                        have H := H1
                                        clear H1
                                        simp only [Option.some.injEq, Prod.mk.injEq] at H
                                        obtain ⟨rfl, rfl⟩ := H
                                        have hcz61_0 : wc.cell? ⟨gb216, 0, none⟩ = some (.int .i64 ((rd_T25 l0 x13_4).f0)) := (blk_cell BK216.out 0).trans rfl
                                        have hcz61_1 : wc.cell? ⟨gb216, 1, none⟩ = some (.int .i64 ((rd_T25 l0 x13_4).f1)) := (blk_cell BK216.out 1).trans rfl
                                        have hcz61_2 : wc.cell? ⟨gb216, 2, none⟩ = some (.int .i64 x217002_36) := (blk_cell BK216.out 2).trans rfl
                                        have hfz61_0 := blk_frozen BK216.out 0
                                        have hfz61_1 := blk_frozen BK216.out 1
                                        have hfz61_2 := blk_frozen BK216.out 2
                                        try go_wp2_with (first | ((with_reducible refine gate_callee (f := 34) rfl ?_); refine goesL_ (some 87) rfl rfl Try.func34 (by kernel_rfl) rfl #[.slice Ao33 t208.length co33, .int .i64 ((rd_T25 l0 x13_4).f0)] rfl (by (try simp only [List.map_toArray, List.map_cons, List.map_nil]); first | done | rfl | (simp only [List.length_drop, List.length_take]; rfl)) ?_; (with_reducible refine (lighterref08_Find.calls kj36 _ _ t208 ((rd_T25 l0 x13_4).f0) t219 _ ?side1 ?side2 A47.out).mono ?_); (case side1 => repeat (first | exact (Kd.R_reads' HO_9.out).2.2 | (with_reducible refine Kd.C_alloc ?_ _) | (with_reducible refine Kd.C_drewN ?_ _) | (with_reducible refine Kd.C_drew ?_))); (case side2 => exact (Kd.R_reads' HO_9.out).2.1); rintro e w' ⟨rfl, ⟨nd, rfl⟩⟩; refine ⟨_, rfl, ?_⟩; (try (rw [drewN_self wc]; generalize hq_ : World.drewN wc _ = wc; have n0_ : Aside0 (Kd.R k25 25 wc w0.heap.size (fun k_ => (P0_ k_ ∨ w.heap.size ≤ k_) ∧ some k_ ≠ (u12 : Value).ownBlock ∧ some k_ ≠ (.slice Ao24 t205.length co24 : Value).ownBlock ∧ some k_ ≠ (.slice Ao33 t208.length co33 : Value).ownBlock ∧ k_ ≠ gb216) (.slice (some ad215) l0.length co38) l0) := ⟨by rw [← hq_]; exact (by (with_reducible repeat (first | apply Kd.R_alloc | apply Kd.R_drewN | apply Kd.R_drew)); exact Kd.R_mono HO_0.out (fun _ hk => ⟨hk.1, ⟨hk.2.2.2.1, ⟨hk.2.1, ⟨hk.2.2.1, hk.2.2.2.2⟩⟩⟩⟩))⟩; have n1_ : Aside0 (Kd.R k25 25 wc w0.heap.size (fun k_ => (P0_ k_ ∨ w.heap.size ≤ k_) ∧ some k_ ≠ (.slice (some ad215) l0.length co38 : Value).ownBlock ∧ some k_ ≠ (.slice Ao24 t205.length co24 : Value).ownBlock ∧ some k_ ≠ (.slice Ao33 t208.length co33 : Value).ownBlock ∧ k_ ≠ gb216) u12 x12_4) := ⟨by rw [← hq_]; exact (by (with_reducible repeat (first | apply Kd.R_alloc | apply Kd.R_drewN | apply Kd.R_drew)); exact HO_12.out)⟩; have n2_ : Aside0 (Kd.R k25 25 wc w0.heap.size (fun k_ => (P0_ k_ ∨ w.heap.size ≤ k_) ∧ some k_ ≠ (.slice (some ad215) l0.length co38 : Value).ownBlock ∧ some k_ ≠ (u12 : Value).ownBlock ∧ some k_ ≠ (.slice Ao33 t208.length co33 : Value).ownBlock ∧ k_ ≠ gb216) (.slice Ao24 t205.length co24) t205) := ⟨by rw [← hq_]; exact (by (with_reducible repeat (first | apply Kd.R_alloc | apply Kd.R_drewN | apply Kd.R_drew)); exact Kd.R_mono HO_8.out (fun _ hk => ⟨hk.1, ⟨hk.2.1, ⟨hk.2.2.2.1, ⟨hk.2.2.1, hk.2.2.2.2⟩⟩⟩⟩))⟩; have n3_ : Aside0 (Kd.R k25 25 wc w0.heap.size (fun k_ => (P0_ k_ ∨ w.heap.size ≤ k_) ∧ some k_ ≠ (.slice (some ad215) l0.length co38 : Value).ownBlock ∧ some k_ ≠ (u12 : Value).ownBlock ∧ some k_ ≠ (.slice Ao24 t205.length co24 : Value).ownBlock ∧ k_ ≠ gb216) (.slice Ao33 t208.length co33) t208) := ⟨by rw [← hq_]; exact (by (with_reducible repeat (first | apply Kd.R_alloc | apply Kd.R_drewN | apply Kd.R_drew)); exact Kd.R_mono HO_9.out (fun _ hk => ⟨hk.1, ⟨hk.2.1, ⟨hk.2.2.2.1, ⟨hk.2.2.1, hk.2.2.2.2⟩⟩⟩⟩))⟩; have n4_ : Aside0 (wc.heap[gb216]? = some (.cells #[.int .i64 ((rd_T25 l0 x13_4).f0), .int .i64 ((rd_T25 l0 x13_4).f1), .int .i64 x217002_36] 25 (0, 0))) := ⟨by rw [← hq_]; exact (by (with_reducible repeat (first | refine blk_drewN ?_ _ | refine blk_drew ?_ | refine blk_alloc ?_ _)); exact BK216.out)⟩; have n5_ : Aside0 (Kept w wc (fun k_ => P0_ k_)) := ⟨by rw [← hq_]; exact (by repeat (first | (with_reducible first | exact HK.out | apply Kept.alloc | apply Kept.drewN | apply Kept.drew | refine Kept.setCell ?_ (.inr GW216.out) _) | exact HK.out))⟩; have n6_ : Aside0 (Below w0.heap.size w0 wc) := ⟨by rw [← hq_]; exact (by repeat (first | (with_reducible first | exact HB.out | apply below_alloc | apply pw_below_drewN | apply below_drew1 | refine below_set ?_ GE216.out) | exact HB.out))⟩; clear HO_0 HO_12 HO_8 HO_9 BK216 HK HB hq_; have HO_0 := n0_; have HO_12 := n1_; have HO_8 := n2_; have HO_9 := n3_; have BK216 := n4_; have HK := n5_; have HB := n6_; clear n0_ n1_ n2_ n3_ n4_ n5_ n6_))))
                                        have n0_ := Aside0.mk (Kd.R_drew HO_0.out)
                                        have n1_ := Aside0.mk (Kd.R_drew HO_8.out)
                                        have n2_ := Aside0.mk (Kd.R_drew HO_9.out)
                                        have n3_ := Aside0.mk (Kd.R_drew HO_12.out)
                                        have n4_ := Aside0.mk (blk_drew BK216.out)
                                        have n5_ := Aside0.mk (Kept.drew HK.out)
                                        have n6_ := Aside0.mk (below_drew1 HB.out)
                                        clear HO_0
                                        clear HO_8
                                        clear HO_9
                                        clear HO_12
                                        clear BK216
                                        clear HK
                                        clear HB
                                        have HO_0 := n0_
                                        have HO_8 := n1_
                                        have HO_9 := n2_
                                        have HO_12 := n3_
                                        have BK216 := n4_
                                        have HK := n5_
                                        have HB := n6_
                                        clear n0_ n1_ n2_ n3_ n4_ n5_ n6_
                                        have p220 : 0 ≤ (t219 : Int) := of_decide_eq_true (by first | (with_reducible assumption) | assumption)
                                        have q220 : t219 < (t208.length : Int) := of_decide_eq_true (by first | (with_reducible assumption) | assumption)
                                        obtain ⟨ad220, e220, hx220_0, hx220_1, hx220_2⟩ := at_T25 (Kd.R_reads' HO_9.out).2.2 t219 p220 q220
                                        cases e220
                                        replace p220 := eq_true p220
                                        replace q220 := eq_true q220
                                        refine start_ (n := 10) (S := fun w' => w'.cell? ⟨gb216, 0, none⟩ = some (.int .i64 ((rd_T25 l0 x13_4).f0)) ∧ w'.cell? ⟨gb216, 1, none⟩ = some (.int .i64 ((rd_T25 l0 x13_4).f1)) ∧ w'.cell? ⟨gb216, 2, none⟩ = some (.int .i64 x217002_36) ∧ w'.cell? (ad220.add ((t219).toNat * 3)) = some (.int .i64 ((rd_T25 t208 t219).f0)) ∧ w'.cell? ⟨(ad220.add ((t219).toNat * 3)).block, (ad220.add ((t219).toNat * 3)).off + 1, none⟩ = some (.int .i64 ((rd_T25 t208 t219).f1)) ∧ w'.cell? ⟨(ad220.add ((t219).toNat * 3)).block, (ad220.add ((t219).toNat * 3)).off + 2, none⟩ = some (.int .i64 ((rd_T25 t208 t219).f2))) (ds := [9]) #[false, false, false, false, false, false, false, false, false, false] (by kernel_rfl) rfl rfl ⟨(blk_cell BK216.out 0).trans rfl, (blk_cell BK216.out 1).trans rfl, (blk_cell BK216.out 2).trans rfl, hx220_0, hx220_1, hx220_2⟩ (fun hHeld => ?_); refine with_tabW lighterref08_Change.tab25 lighterref08_Change.bits25 (fun HT_ HW_ => ?_)
                                        generalize wc.drew = w62 at HO_0 HO_8 HO_9 HO_12 BK216 HK HB hx220_0 hx220_1 hx220_2 hHeld ⊢
                                        refine pure_ (i := 0) (N := some 90) (v := ?_) (a' := ?_) #[true, false, false, false, false, false, false, false, false, false] rfl rfl (any_of HT_.out (by kernel_rfl)) (fun _ _ _ h => h) (Or.inl ⟨by rfl, ?_⟩) ?_ ?_
                                        rotate_left
                                        · intro w'
                                          go_simp
                                          with_reducible rfl
                                        rotate_left
                                        · simp only [Act.put, List.setIfInBounds_toArray, List.set_cons_zero, List.set_cons_succ, i64_w, i32_w]
                                          rfl
                                        refine pure_ (i := 2) (N := some 92) (v := ?_) (a' := ?_) #[true, false, true, false, false, false, false, false, false, false] rfl rfl (any_of HT_.out (by kernel_rfl)) (fun _ _ _ h => h) (Or.inl ⟨by rfl, ?_⟩) ?_ ?_
                                        rotate_left
                                        · intro w'
                                          go_simp
                                          with_reducible rfl
                                        rotate_left
                                        · simp only [Act.put, List.setIfInBounds_toArray, List.set_cons_zero, List.set_cons_succ, i64_w, i32_w]
                                          rfl
                                        refine pure_ (i := 3) (N := some 93) (v := ?_) (a' := ?_) #[true, false, true, true, false, false, false, false, false, false] rfl rfl (any_of HT_.out (by kernel_rfl)) (fun _ _ _ h => h) (Or.inl ⟨by rfl, ?_⟩) ?_ ?_
                                        rotate_left
                                        · intro w'
                                          go_simp
                                          with_reducible rfl
                                        rotate_left
                                        · simp only [Act.put, List.setIfInBounds_toArray, List.set_cons_zero, List.set_cons_succ, i64_w, i32_w]
                                          rfl
                                        refine pure_ (i := 4) (N := some 94) (v := ?_) (a' := ?_) #[true, false, true, true, true, false, false, false, false, false] rfl rfl (any_of HT_.out (by kernel_rfl)) (fun _ _ _ h => h) (Or.inl ⟨by rfl, ?_⟩) ?_ ?_
                                        rotate_left
                                        · intro w'
                                          go_simp
                                          with_reducible rfl
                                        rotate_left
                                        · simp only [Act.put, List.setIfInBounds_toArray, List.set_cons_zero, List.set_cons_succ, i64_w, i32_w]
                                          rfl
                                        refine pure_ (i := 5) (N := some 95) (v := ?_) (a' := ?_) #[true, false, true, true, true, true, false, false, false, false] rfl rfl (any_of HT_.out (by kernel_rfl)) (fun _ _ _ h => h) (Or.inl ⟨by rfl, ?_⟩) ?_ ?_
                                        rotate_left
                                        · intro w'
                                          go_simp
                                          with_reducible rfl
                                        rotate_left
                                        · simp only [Act.put, List.setIfInBounds_toArray, List.set_cons_zero, List.set_cons_succ, i64_w, i32_w]
                                          rfl
                                        refine take_ (i := 1) (N := some 91) (v := ?_) (a' := ?_) #[true, true, true, true, true, true, false, false, false, false] rfl rfl (take_ofW HT_.out HW_.out (by kernel_rfl)) (fun _ _ _ h => h) (Or.inl ⟨by rfl, ?_⟩) hHeld ?_ ?_
                                        rotate_left
                                        · rintro w' ⟨s0, s1, s2, s3, s4, s5⟩
                                          go_simp
                                          with_reducible rfl
                                        rotate_left
                                        · simp only [Act.put, List.setIfInBounds_toArray, List.set_cons_zero, List.set_cons_succ, i64_w, i32_w]
                                          rfl
                                        refine take_ (i := 6) (N := some 96) (v := ?_) (a' := ?_) #[true, true, true, true, true, true, true, false, false, false] rfl rfl (take_ofW HT_.out HW_.out (by kernel_rfl)) (fun _ _ _ h => h) (Or.inl ⟨by rfl, ?_⟩) hHeld ?_ ?_
                                        rotate_left
                                        · rintro w' ⟨s0, s1, s2, s3, s4, s5⟩
                                          go_simp
                                          with_reducible rfl
                                        rotate_left
                                        · simp only [Act.put, List.setIfInBounds_toArray, List.set_cons_zero, List.set_cons_succ, i64_w, i32_w]
                                          rfl
                                        refine pure_ (i := 7) (N := some 97) (v := ?_) (a' := ?_) #[true, true, true, true, true, true, true, true, false, false] rfl rfl (any_of HT_.out (by kernel_rfl)) (fun _ _ _ h => h) (Or.inl ⟨by rfl, ?_⟩) ?_ ?_
                                        rotate_left
                                        · intro w'
                                          go_simp
                                          with_reducible rfl
                                        rotate_left
                                        · simp only [Act.put, List.setIfInBounds_toArray, List.set_cons_zero, List.set_cons_succ, i64_w, i32_w]
                                          rfl
                                        refine pure_ (i := 8) (N := some 98) (v := ?_) (a' := ?_) #[true, true, true, true, true, true, true, true, true, false] rfl rfl (any_of HT_.out (by kernel_rfl)) (fun _ _ _ h => h) (Or.inl ⟨by rfl, ?_⟩) ?_ ?_
                                        rotate_left
                                        · intro w'
                                          go_simp
                                          with_reducible rfl
                                        rotate_left
                                        · simp only [Act.put, List.setIfInBounds_toArray, List.set_cons_zero, List.set_cons_succ, i64_w, i32_w]
                                          rfl
                                        refine last_ (i := 9) (N := none) #[true, true, true, true, true, true, true, true, true, true] rfl rfl (one_of HT_.out (by kernel_rfl)) (by decide) (fun K hK => ?_)
                                        have hs63 : w62.cell? ⟨gb216, 2, none⟩ = some (.int .i64 x217002_36) := (blk_cell BK216.out 2).trans rfl
                                        have hfs63 := blk_frozen BK216.out 2
                                        refine skip_ (w1 := ?_) (by rfl) rfl ?_ ?_
                                        rotate_left
                                        · go_simp
                                          rfl
                                        refine hK.out _ _ ?_
                                        clear hK K
                                        refine done_ (done_of HT_.out (by kernel_rfl)) ?_
                                        have hcz64_0 : w62.cell? ⟨gb216, 0, none⟩ = some (.int .i64 ((rd_T25 l0 x13_4).f0)) := (blk_cell BK216.out 0).trans rfl
                                        have hcz64_1 : w62.cell? ⟨gb216, 1, none⟩ = some (.int .i64 ((rd_T25 l0 x13_4).f1)) := (blk_cell BK216.out 1).trans rfl
                                        have hcz64_2 : w62.cell? ⟨gb216, 2, none⟩ = some (.int .i64 x217002_36) := (blk_cell BK216.out 2).trans rfl
                                        have hfz64_0 := blk_frozen BK216.out 0
                                        have hfz64_1 := blk_frozen BK216.out 1
                                        have hfz64_2 := blk_frozen BK216.out 2
                                        try go_wp2_with (first | ((with_reducible refine gate_callee (f := 11) rfl ?_); refine goesL_ (some 100) rfl rfl Try.func11 (by kernel_rfl) rfl #[.agg #[.int .i64 ((rd_T25 l0 x13_4).f0), .int .i64 ((rd_T25 l0 x13_4).f1), .int .i64 (wrap64 (x217002_36 - ((rd_T25 t208 t219).f2)))]] rfl (by (try simp only [List.map_toArray, List.map_cons, List.map_nil]); first | done | rfl | (simp only [List.length_drop, List.length_take]; rfl)) ?_; (with_reducible refine (lighterref08_May.calls ((rd_T25 l0 x13_4).f0) ((rd_T25 l0 x13_4).f1) (wrap64 (x217002_36 - ((rd_T25 t208 t219).f2))) false _ A51.out).mono ?_); rintro e w65 ⟨rfl, hb⟩; refine ⟨_, rfl, ?_⟩; have n0_ := Aside0.mk (Kd.R_below (by (with_reducible repeat (first | apply Kd.R_alloc | apply Kd.R_drewN | apply Kd.R_drew)); exact (Kd.R_mono (Kd.R_far (p := ⟨gb216, 2, none⟩) (Kd.R_mono HO_0.out (fun k_ hk => (⟨hk, hk.2.2.2.2⟩ : _ ∧ k_ ≠ gb216))) (fun _ hk => hk.2) (.int .i64 (wrap64 (x217002_36 - ((rd_T25 t208 t219).f2))))) (fun _ h_ => h_.1))) hb); have n1_ := Aside0.mk (Kd.R_below (by (with_reducible repeat (first | apply Kd.R_alloc | apply Kd.R_drewN | apply Kd.R_drew)); exact (Kd.R_mono (Kd.R_far (p := ⟨gb216, 2, none⟩) (Kd.R_mono HO_8.out (fun k_ hk => (⟨hk, hk.2.2.2.2⟩ : _ ∧ k_ ≠ gb216))) (fun _ hk => hk.2) (.int .i64 (wrap64 (x217002_36 - ((rd_T25 t208 t219).f2))))) (fun _ h_ => h_.1))) hb); have n2_ := Aside0.mk (Kd.R_below (by (with_reducible repeat (first | apply Kd.R_alloc | apply Kd.R_drewN | apply Kd.R_drew)); exact (Kd.R_mono (Kd.R_far (p := ⟨gb216, 2, none⟩) (Kd.R_mono HO_9.out (fun k_ hk => (⟨hk, hk.2.2.2.2⟩ : _ ∧ k_ ≠ gb216))) (fun _ hk => hk.2) (.int .i64 (wrap64 (x217002_36 - ((rd_T25 t208 t219).f2))))) (fun _ h_ => h_.1))) hb); have n3_ := Aside0.mk (Kd.R_below (by (with_reducible repeat (first | apply Kd.R_alloc | apply Kd.R_drewN | apply Kd.R_drew)); exact (Kd.R_mono (Kd.R_far (p := ⟨gb216, 2, none⟩) (Kd.R_mono HO_12.out (fun k_ hk => (⟨hk, hk.2.2.2.2⟩ : _ ∧ k_ ≠ gb216))) (fun _ hk => hk.2) (.int .i64 (wrap64 (x217002_36 - ((rd_T25 t208 t219).f2))))) (fun _ h_ => h_.1))) hb); have n4_ := Aside0.mk (blk_below (g := gb216) (o := .cells #[.int .i64 ((rd_T25 l0 x13_4).f0), .int .i64 ((rd_T25 l0 x13_4).f1), .int .i64 (wrap64 (x217002_36 - ((rd_T25 t208 t219).f2)))] 25 (0, 0)) (by (with_reducible repeat (first | refine blk_drewN ?_ _ | refine blk_drew ?_ | refine blk_alloc ?_ _)); refine blk_put (cs := #[.int .i64 ((rd_T25 l0 x13_4).f0), .int .i64 ((rd_T25 l0 x13_4).f1), .int .i64 x217002_36]) ?_ 2 _ rfl; (with_reducible repeat (first | refine blk_drewN ?_ _ | refine blk_drew ?_ | refine blk_alloc ?_ _)); exact BK216.out) hb); have n5_ := Aside0.mk (Kept.below (S := (fun k_ => P0_ k_)) (by repeat (first | (with_reducible first | exact HK.out | apply Kept.alloc | apply Kept.drewN | apply Kept.drew | refine Kept.setCell ?_ (.inr GW216.out) _) | exact HK.out)) hb); have n6_ := Aside0.mk (below_step (by repeat (first | (with_reducible first | exact HB.out | apply below_alloc | apply pw_below_drewN | apply below_drew1 | refine below_set ?_ GE216.out) | exact HB.out)) hb); clear HO_0; clear HO_8; clear HO_9; clear HO_12; clear BK216; clear HK; clear HB; have HO_0 := n0_; have HO_8 := n1_; have HO_9 := n2_; have HO_12 := n3_; have BK216 := n4_; have HK := n5_; have HB := n6_; clear n0_ n1_ n2_ n3_ n4_ n5_ n6_; (try clear hb); (try clear hb2); (try clear hk); (try clear hi)))
                                        go_ret2
                                        exact ⟨_, by first | rfl | (simp [errW_none, errW_some] <;> rfl) | (simp [*, errW_none, errW_some] <;> rfl), by (with_reducible repeat (first | apply Kd.R_alloc | apply Kd.R_drewN | apply Kd.R_drew)); exact Kd.R_mono HO_0.out (fun _ hk => hk.1), by repeat (first | (with_reducible first | exact HB.out | apply below_alloc | apply pw_below_drewN | apply below_drew1 | refine below_set ?_ GE216.out) | exact HB.out), by repeat (first | (with_reducible first | exact HK.out | apply Kept.alloc | apply Kept.drewN | apply Kept.drew | refine Kept.setCell ?_ (.inr GW216.out) _) | exact HK.out)⟩
                                    · rw [if_neg c50] at H
                                      exact absurd H (by simp)
                                  · rw [if_neg c49] at H
                                    exact absurd H (by simp)
                                · rw [if_neg c48] at H
                                  have c48b0 : decide (0 ≤ t219) = false := decide_eq_false c48
                                  clear c48
                                  replace H := Option.bind_eq_some_iff.mp H
                                  obtain ⟨t225, A660, H⟩ := H
                                  replace H : (if t225 = true then (if x12_4.length < 5864062014805 then (lighterref08_Change.l2 kj36 l0 t205 t208 (x12_4 ++ [(⟨((rd_T25 l0 x13_4).f0), ((rd_T25 l0 x13_4).f1), x217002_36⟩ : S25)]) (wrap64 (x13_4 + 1))) else (none)) else (some (l0, 31))) = some (r1, r2) := H
                                  have A66 := Aside0.mk A660
                                  clear A660
                                  by_cases c67 : t225 = true
                                  · subst c67
                                    have H1 : (if x12_4.length < 5864062014805 then (lighterref08_Change.l2 kj36 l0 t205 t208 (x12_4 ++ [(⟨((rd_T25 l0 x13_4).f0), ((rd_T25 l0 x13_4).f1), x217002_36⟩ : S25)]) (wrap64 (x13_4 + 1))) else (none)) = some (r1, r2) := by rw [if_pos rfl] at H; exact H
                                    clear H
                                    have H := H1
                                    clear H1
                                    by_cases c68 : x12_4.length < 5864062014805
                                    · rw [if_pos c68] at H
                                      have LMc68 := Aside0.mk c68
                                      clear c68
                                      obtain ⟨y226, hy226⟩ : ∃ y_ : List (S25), y_ = (x12_4 ++ [(⟨((rd_T25 l0 x13_4).f0), ((rd_T25 l0 x13_4).f1), x217002_36⟩ : S25)]) := ⟨_, rfl⟩
                                      replace H : (lighterref08_Change.l2 kj36 l0 t205 t208 y226 (wrap64 (x13_4 + 1))) = some (r1, r2) := by first | (rw [hy226]; with_reducible exact H) | (have H2_ := (Option.bind_some _ _).symm.trans H; rw [hy226]; with_reducible exact H2_) | (have H2_ := (Option.bind_some _ _).symm.trans H; with_reducible exact H2_) | with_reducible exact H | (rw [hy226]; exact H) | exact H
                                      have Ny226 := Aside0.mk hy226
                                      clear hy226
                                      have H' := Aside0.mk H
                                      clear H
                                      have hcz69_0 : wc.cell? ⟨gb216, 0, none⟩ = some (.int .i64 ((rd_T25 l0 x13_4).f0)) := (blk_cell BK216.out 0).trans rfl
                                      have hcz69_1 : wc.cell? ⟨gb216, 1, none⟩ = some (.int .i64 ((rd_T25 l0 x13_4).f1)) := (blk_cell BK216.out 1).trans rfl
                                      have hcz69_2 : wc.cell? ⟨gb216, 2, none⟩ = some (.int .i64 x217002_36) := (blk_cell BK216.out 2).trans rfl
                                      have hfz69_0 := blk_frozen BK216.out 0
                                      have hfz69_1 := blk_frozen BK216.out 1
                                      have hfz69_2 := blk_frozen BK216.out 2
                                      go_wp2_with (first | ((with_reducible refine gate_callee (f := 34) rfl ?_); refine goesL_ (some 87) rfl rfl Try.func34 (by kernel_rfl) rfl #[.slice Ao33 t208.length co33, .int .i64 ((rd_T25 l0 x13_4).f0)] rfl (by (try simp only [List.map_toArray, List.map_cons, List.map_nil]); first | done | rfl | (simp only [List.length_drop, List.length_take]; rfl)) ?_; (with_reducible refine (lighterref08_Find.calls kj36 _ _ t208 ((rd_T25 l0 x13_4).f0) t219 _ ?side1 ?side2 A47.out).mono ?_); (case side1 => repeat (first | exact (Kd.R_reads' HO_9.out).2.2 | (with_reducible refine Kd.C_alloc ?_ _) | (with_reducible refine Kd.C_drewN ?_ _) | (with_reducible refine Kd.C_drew ?_))); (case side2 => exact (Kd.R_reads' HO_9.out).2.1); rintro e w' ⟨rfl, ⟨nd, rfl⟩⟩; refine ⟨_, rfl, ?_⟩) | ((with_reducible refine gate_callee (f := 11) rfl ?_); refine goesL_ (some 100) rfl rfl Try.func11 (by kernel_rfl) rfl #[.agg #[.int .i64 ((rd_T25 l0 x13_4).f0), .int .i64 ((rd_T25 l0 x13_4).f1), .int .i64 x217002_36]] rfl (by (try simp only [List.map_toArray, List.map_cons, List.map_nil]); first | done | rfl | (simp only [List.length_drop, List.length_take]; rfl)) ?_; (with_reducible refine (lighterref08_May.calls ((rd_T25 l0 x13_4).f0) ((rd_T25 l0 x13_4).f1) x217002_36 true _ A66.out).mono ?_); rintro e w70 ⟨rfl, hb⟩; refine ⟨_, rfl, ?_⟩; have n0_ := Aside0.mk (Kd.R_below (by (with_reducible repeat (first | apply Kd.R_alloc | apply Kd.R_drewN | apply Kd.R_drew)); exact HO_0.out) hb); have n1_ := Aside0.mk (Kd.R_below (by (with_reducible repeat (first | apply Kd.R_alloc | apply Kd.R_drewN | apply Kd.R_drew)); exact HO_8.out) hb); have n2_ := Aside0.mk (Kd.R_below (by (with_reducible repeat (first | apply Kd.R_alloc | apply Kd.R_drewN | apply Kd.R_drew)); exact HO_9.out) hb); have n3_ := Aside0.mk (Kd.R_below (by (with_reducible repeat (first | apply Kd.R_alloc | apply Kd.R_drewN | apply Kd.R_drew)); exact HO_12.out) hb); have n4_ := Aside0.mk (blk_below (g := gb216) (o := .cells #[.int .i64 ((rd_T25 l0 x13_4).f0), .int .i64 ((rd_T25 l0 x13_4).f1), .int .i64 x217002_36] 25 (0, 0)) (by (with_reducible repeat (first | refine blk_drewN ?_ _ | refine blk_drew ?_ | refine blk_alloc ?_ _)); exact BK216.out) hb); have n5_ := Aside0.mk (Kept.below (S := (fun k_ => P0_ k_)) (by repeat (first | (with_reducible first | exact HK.out | apply Kept.alloc | apply Kept.drewN | apply Kept.drew | refine Kept.setCell ?_ (.inr GW216.out) _) | exact HK.out)) hb); have n6_ := Aside0.mk (below_step (by repeat (first | (with_reducible first | exact HB.out | apply below_alloc | apply pw_below_drewN | apply below_drew1 | refine below_set ?_ GE216.out) | exact HB.out)) hb); clear HO_0; clear HO_8; clear HO_9; clear HO_12; clear BK216; clear HK; clear HB; have HO_0 := n0_; have HO_8 := n1_; have HO_9 := n2_; have HO_12 := n3_; have BK216 := n4_; have HK := n5_; have HB := n6_; clear n0_ n1_ n2_ n3_ n4_ n5_ n6_; (try clear hb); (try clear hb2); (try clear hk); (try clear hi); have hcz71_0 : w70.cell? ⟨gb216, 0, none⟩ = some (.int .i64 ((rd_T25 l0 x13_4).f0)) := (blk_cell BK216.out 0).trans rfl; have hcz71_1 : w70.cell? ⟨gb216, 1, none⟩ = some (.int .i64 ((rd_T25 l0 x13_4).f1)) := (blk_cell BK216.out 1).trans rfl; have hcz71_2 : w70.cell? ⟨gb216, 2, none⟩ = some (.int .i64 x217002_36) := (blk_cell BK216.out 2).trans rfl; have hfz71_0 := blk_frozen BK216.out 0; have hfz71_1 := blk_frozen BK216.out 1; have hfz71_2 := blk_frozen BK216.out 2) | ((with_reducible refine gate_builtin (b := .append) (xs := #[.tmp 103, .tmp 105]) rfl ?_); at_builtin; refine Kd.R_append k25 (w0 := w0) w0.heap.size rfl (.tmp 103) (.tmp 105) 26 25 (.agg #[(.int .i64 0), (.int .i64 0), (.int .i64 0)]) 24 rfl Try.underlying26 info25 rfl (by decide) (by omega) u12 x12_4 (⟨((rd_T25 l0 x13_4).f0), ((rd_T25 l0 x13_4).f1), x217002_36⟩ : S25) [.int .i64 ((rd_T25 l0 x13_4).f0), .int .i64 ((rd_T25 l0 x13_4).f1), .int .i64 x217002_36] (fun k_ => (P0_ k_ ∨ w.heap.size ≤ k_) ∧ some k_ ≠ (.slice (some ad215) l0.length co38 : Value).ownBlock ∧ some k_ ≠ (.slice Ao24 t205.length co24 : Value).ownBlock ∧ some k_ ≠ (.slice Ao33 t208.length co33 : Value).ownBlock ∧ k_ ≠ gb216) (fun _ => False) rfl rfl ?aP (fun _ hk => hk.elim) ?aF ?aO ?aB ?aS ?aL ?_; (case aP => exact k25_mkM _ _ _ (⟨((rd_T25 l0 x13_4).f0), ((rd_T25 l0 x13_4).f1), x217002_36⟩ : S25)); (case aB => exact (by repeat (first | (with_reducible first | exact HB.out | apply below_alloc | apply pw_below_drewN | apply below_drew1 | refine below_set ?_ GE216.out) | exact HB.out))); (case aF => exact (fun k_ hk => ⟨(.inr (Nat.le_trans (by first | exact HK.out.1 | exact (show Kept w _ (fun k_ => P0_ k_) from by repeat (first | (with_reducible first | exact HK.out | apply Kept.alloc | apply Kept.drewN | apply Kept.drew | refine Kept.setCell ?_ (.inr GW216.out) _) | exact HK.out)).1) hk)), Kd.fresh' (Kd.R_lt (by (with_reducible repeat (first | apply Kd.R_alloc | apply Kd.R_drewN | apply Kd.R_drew)); exact HO_0.out)) k_ hk, Kd.fresh' (Kd.R_lt (by (with_reducible repeat (first | apply Kd.R_alloc | apply Kd.R_drewN | apply Kd.R_drew)); exact HO_8.out)) k_ hk, Kd.fresh' (Kd.R_lt (by (with_reducible repeat (first | apply Kd.R_alloc | apply Kd.R_drewN | apply Kd.R_drew)); exact HO_9.out)) k_ hk, Kd.freshB (g := gb216) (o := .cells #[.int .i64 ((rd_T25 l0 x13_4).f0), .int .i64 ((rd_T25 l0 x13_4).f1), .int .i64 x217002_36] 25 (0, 0)) (by (with_reducible repeat (first | refine blk_drewN ?_ _ | refine blk_drew ?_ | refine blk_alloc ?_ _)); exact BK216.out) k_ hk⟩)); (case aO => exact (by (with_reducible repeat (first | apply Kd.R_alloc | apply Kd.R_drewN | apply Kd.R_drew)); exact HO_12.out)); (case aS => exact (below_size (by repeat (first | (with_reducible first | exact HB.out | apply below_alloc | apply pw_below_drewN | apply below_drew1 | refine below_set ?_ GE216.out) | exact HB.out)))); (case aL => have := LMc68.out; omega); intro v227 w72 ho hb hg hat; rw [← Ny226.out] at ho; have n0_ := Aside0.mk (Kd.R_after (ok := (fun k_ => (P0_ k_ ∨ w.heap.size ≤ k_) ∧ some k_ ≠ (.slice Ao24 t205.length co24 : Value).ownBlock ∧ some k_ ≠ (.slice Ao33 t208.length co33 : Value).ownBlock ∧ k_ ≠ gb216)) (by (with_reducible repeat (first | apply Kd.R_alloc | apply Kd.R_drewN | apply Kd.R_drew)); exact Kd.R_mono HO_0.out (fun _ hk => ⟨⟨hk.1, ⟨hk.2.1, ⟨hk.2.2.1, hk.2.2.2.2⟩⟩⟩, hk.2.2.2.1⟩)) hg hat); have n1_ := Aside0.mk (Kd.R_after (ok := (fun k_ => (P0_ k_ ∨ w.heap.size ≤ k_) ∧ some k_ ≠ (.slice (some ad215) l0.length co38 : Value).ownBlock ∧ some k_ ≠ (.slice Ao33 t208.length co33 : Value).ownBlock ∧ k_ ≠ gb216)) (by (with_reducible repeat (first | apply Kd.R_alloc | apply Kd.R_drewN | apply Kd.R_drew)); exact Kd.R_mono HO_8.out (fun _ hk => ⟨⟨hk.1, ⟨hk.2.1, ⟨hk.2.2.1, hk.2.2.2.2⟩⟩⟩, hk.2.2.2.1⟩)) hg hat); have n2_ := Aside0.mk (Kd.R_after (ok := (fun k_ => (P0_ k_ ∨ w.heap.size ≤ k_) ∧ some k_ ≠ (.slice (some ad215) l0.length co38 : Value).ownBlock ∧ some k_ ≠ (.slice Ao24 t205.length co24 : Value).ownBlock ∧ k_ ≠ gb216)) (by (with_reducible repeat (first | apply Kd.R_alloc | apply Kd.R_drewN | apply Kd.R_drew)); exact Kd.R_mono HO_9.out (fun _ hk => ⟨⟨hk.1, ⟨hk.2.1, ⟨hk.2.2.1, hk.2.2.2.2⟩⟩⟩, hk.2.2.2.1⟩)) hg hat); have n3_ := Aside0.mk (blk_grown (g := gb216) (o := .cells #[.int .i64 ((rd_T25 l0 x13_4).f0), .int .i64 ((rd_T25 l0 x13_4).f1), .int .i64 x217002_36] 25 (0, 0)) (by (with_reducible repeat (first | refine blk_drewN ?_ _ | refine blk_drew ?_ | refine blk_alloc ?_ _)); exact BK216.out) hg (Kd.R_away HO_12.out (fun _ hk => hk.2.2.2.2))); have n4_ := Aside0.mk (hb); have n5_ := Aside0.mk (Kept.of_grown (S := (fun k_ => P0_ k_)) hg (by repeat (first | (with_reducible first | exact HK.out | apply Kept.alloc | apply Kept.drewN | apply Kept.drew | refine Kept.setCell ?_ (.inr GW216.out) _) | exact HK.out)) (fun k_ e_ => (HO_12.out.1 k_ e_).1)); have n6_ := Aside0.mk (ho); clear HO_0; clear HO_8; clear HO_9; clear BK216; clear HB; clear HK; clear HO_12; have HO_0 := n0_; have HO_8 := n1_; have HO_9 := n2_; have BK216 := n3_; have HB := n4_; have HK := n5_; have HO228 := n6_; clear n0_ n1_ n2_ n3_ n4_ n5_ n6_; clear ho hb hg hat))
                                      go_roundg kj36
                                      case measure => have := HJ3.out; have := HK2.out; have := HK3.out; have := HK4.out; have := HJ36.out; omega
                                      case rel => exact ⟨(y226), (wrap64 (x13_4 + 1)), (by first | rfl | (simp; done) | (simp [*]; done)), H', ⟨by have := HJ3.out; have := HK2.out; have := HK3.out; have := HK4.out; have := HJ36.out; omega⟩, ⟨by (with_reducible repeat (first | apply Kd.R_alloc | apply Kd.R_drewN | apply Kd.R_drew)); exact Kd.R_mono HO_0.out (fun _ hk => ⟨hk.1.1, ⟨hk.1.2.1, ⟨hk.1.2.2.1, hk.2⟩⟩⟩)⟩, ⟨by (with_reducible repeat (first | apply Kd.R_alloc | apply Kd.R_drewN | apply Kd.R_drew)); exact Kd.R_mono HO_8.out (fun _ hk => ⟨hk.1.1, ⟨hk.1.2.1, ⟨hk.1.2.2.1, hk.2⟩⟩⟩)⟩, ⟨by (with_reducible repeat (first | apply Kd.R_alloc | apply Kd.R_drewN | apply Kd.R_drew)); exact Kd.R_mono HO_9.out (fun _ hk => ⟨hk.1.1, ⟨hk.1.2.1, ⟨hk.1.2.2.1, hk.2⟩⟩⟩)⟩, ⟨by (with_reducible repeat (first | apply Kd.R_alloc | apply Kd.R_drewN | apply Kd.R_drew)); exact Kd.R_mono HO228.out (fun _ hk => ⟨hk.1, ⟨hk.2.1, ⟨hk.2.2.1, hk.2.2.2.1⟩⟩⟩)⟩, ⟨by repeat (first | (with_reducible first | exact HK.out | apply Kept.alloc | apply Kept.drewN | apply Kept.drew | refine Kept.setCell ?_ (.inr GW216.out) _) | exact HK.out)⟩, ⟨by repeat (first | (with_reducible first | exact HB.out | apply below_alloc | apply pw_below_drewN | apply below_drew1 | refine below_set ?_ GE216.out) | exact HB.out)⟩⟩
                                    · rw [if_neg c68] at H
                                      exact absurd H (by simp)
                                  · replace c67 := Bool.eq_false_iff.mpr c67
                                    subst c67
                                    have H1 : (some (l0, 31)) = some (r1, r2) := by rw [if_neg (show ¬ (false = true) by decide)] at H; exact H
                                    clear H
                                    have H := H1
                                    clear H1
                                    simp only [Option.some.injEq, Prod.mk.injEq] at H
                                    obtain ⟨rfl, rfl⟩ := H
                                    have hcz73_0 : wc.cell? ⟨gb216, 0, none⟩ = some (.int .i64 ((rd_T25 l0 x13_4).f0)) := (blk_cell BK216.out 0).trans rfl
                                    have hcz73_1 : wc.cell? ⟨gb216, 1, none⟩ = some (.int .i64 ((rd_T25 l0 x13_4).f1)) := (blk_cell BK216.out 1).trans rfl
                                    have hcz73_2 : wc.cell? ⟨gb216, 2, none⟩ = some (.int .i64 x217002_36) := (blk_cell BK216.out 2).trans rfl
                                    have hfz73_0 := blk_frozen BK216.out 0
                                    have hfz73_1 := blk_frozen BK216.out 1
                                    have hfz73_2 := blk_frozen BK216.out 2
                                    go_wp2_with (first | ((with_reducible refine gate_callee (f := 34) rfl ?_); refine goesL_ (some 87) rfl rfl Try.func34 (by kernel_rfl) rfl #[.slice Ao33 t208.length co33, .int .i64 ((rd_T25 l0 x13_4).f0)] rfl (by (try simp only [List.map_toArray, List.map_cons, List.map_nil]); first | done | rfl | (simp only [List.length_drop, List.length_take]; rfl)) ?_; (with_reducible refine (lighterref08_Find.calls kj36 _ _ t208 ((rd_T25 l0 x13_4).f0) t219 _ ?side1 ?side2 A47.out).mono ?_); (case side1 => repeat (first | exact (Kd.R_reads' HO_9.out).2.2 | (with_reducible refine Kd.C_alloc ?_ _) | (with_reducible refine Kd.C_drewN ?_ _) | (with_reducible refine Kd.C_drew ?_))); (case side2 => exact (Kd.R_reads' HO_9.out).2.1); rintro e w' ⟨rfl, ⟨nd, rfl⟩⟩; refine ⟨_, rfl, ?_⟩) | ((with_reducible refine gate_callee (f := 11) rfl ?_); refine goesL_ (some 100) rfl rfl Try.func11 (by kernel_rfl) rfl #[.agg #[.int .i64 ((rd_T25 l0 x13_4).f0), .int .i64 ((rd_T25 l0 x13_4).f1), .int .i64 x217002_36]] rfl (by (try simp only [List.map_toArray, List.map_cons, List.map_nil]); first | done | rfl | (simp only [List.length_drop, List.length_take]; rfl)) ?_; (with_reducible refine (lighterref08_May.calls ((rd_T25 l0 x13_4).f0) ((rd_T25 l0 x13_4).f1) x217002_36 false _ A66.out).mono ?_); rintro e w74 ⟨rfl, hb⟩; refine ⟨_, rfl, ?_⟩; have n0_ := Aside0.mk (Kd.R_below (by (with_reducible repeat (first | apply Kd.R_alloc | apply Kd.R_drewN | apply Kd.R_drew)); exact HO_0.out) hb); have n1_ := Aside0.mk (Kd.R_below (by (with_reducible repeat (first | apply Kd.R_alloc | apply Kd.R_drewN | apply Kd.R_drew)); exact HO_8.out) hb); have n2_ := Aside0.mk (Kd.R_below (by (with_reducible repeat (first | apply Kd.R_alloc | apply Kd.R_drewN | apply Kd.R_drew)); exact HO_9.out) hb); have n3_ := Aside0.mk (Kd.R_below (by (with_reducible repeat (first | apply Kd.R_alloc | apply Kd.R_drewN | apply Kd.R_drew)); exact HO_12.out) hb); have n4_ := Aside0.mk (blk_below (g := gb216) (o := .cells #[.int .i64 ((rd_T25 l0 x13_4).f0), .int .i64 ((rd_T25 l0 x13_4).f1), .int .i64 x217002_36] 25 (0, 0)) (by (with_reducible repeat (first | refine blk_drewN ?_ _ | refine blk_drew ?_ | refine blk_alloc ?_ _)); exact BK216.out) hb); have n5_ := Aside0.mk (Kept.below (S := (fun k_ => P0_ k_)) (by repeat (first | (with_reducible first | exact HK.out | apply Kept.alloc | apply Kept.drewN | apply Kept.drew | refine Kept.setCell ?_ (.inr GW216.out) _) | exact HK.out)) hb); have n6_ := Aside0.mk (below_step (by repeat (first | (with_reducible first | exact HB.out | apply below_alloc | apply pw_below_drewN | apply below_drew1 | refine below_set ?_ GE216.out) | exact HB.out)) hb); clear HO_0; clear HO_8; clear HO_9; clear HO_12; clear BK216; clear HK; clear HB; have HO_0 := n0_; have HO_8 := n1_; have HO_9 := n2_; have HO_12 := n3_; have BK216 := n4_; have HK := n5_; have HB := n6_; clear n0_ n1_ n2_ n3_ n4_ n5_ n6_; (try clear hb); (try clear hb2); (try clear hk); (try clear hi)))
                                    go_ret2
                                    exact ⟨_, by first | rfl | (simp [errW_none, errW_some] <;> rfl) | (simp [*, errW_none, errW_some] <;> rfl), by (with_reducible repeat (first | apply Kd.R_alloc | apply Kd.R_drewN | apply Kd.R_drew)); exact Kd.R_mono HO_0.out (fun _ hk => hk.1), by repeat (first | (with_reducible first | exact HB.out | apply below_alloc | apply pw_below_drewN | apply below_drew1 | refine below_set ?_ GE216.out) | exact HB.out), by repeat (first | (with_reducible first | exact HK.out | apply Kept.alloc | apply Kept.drewN | apply Kept.drew | refine Kept.setCell ?_ (.inr GW216.out) _) | exact HK.out)⟩
                          · rw [if_neg c35] at H
                            exact absurd H (by simp)
                        · rw [if_neg c34] at H
                          have c34b0 : decide (x13_4 < (l0.length : Int)) = false := decide_eq_false c34
                          clear c34
                          simp only [Option.some.injEq, Prod.mk.injEq] at H
                          obtain ⟨rfl, rfl⟩ := H
                          obtain ⟨Ao75, co75, eo75⟩ := Kd.R_slice HO_0.out
                          subst eo75
                          go_wp2
                          go_ret2
                          exact ⟨_, by first | rfl | (simp [errW_none, errW_some] <;> rfl) | (simp [*, errW_none, errW_some] <;> rfl), by (with_reducible repeat (first | apply Kd.R_alloc | apply Kd.R_drewN | apply Kd.R_drew)); exact Kd.R_mono HO_12.out (fun _ hk => hk.1), by repeat (first | (with_reducible first | exact HB.out | apply below_alloc | apply pw_below_drewN | apply below_drew1) | exact HB.out), by repeat (first | (with_reducible first | exact HK.out | apply Kept.alloc | apply Kept.drewN | apply Kept.drew) | exact HK.out)⟩
end Go.Proofs.Ytcjeegomonegpaa.PLivePlays
namespace Go.Proofs.Ytcjeegomonegpaa.PLivePlays
open Go.RowKit Go.Proofs.YtcjeegomonegpaaW.PrintWords Go.Proofs.YtcjeegomonegpaaW.PrintLast Go.Proofs.YtcjeegomonegpaaW.PrintMore
attribute [local go_sem] max2_int min2_int max_two min_two max_three min_three max_four min_four   -- for this text's walks alone
set_option linter.unusedVariables false
set_option linter.unusedSimpArgs false
def lighterref08_less.f (a0_0 : Int) (a0_1 : Int) (a0_2 : Int) (a1_0 : Int) (a1_1 : Int) (a1_2 : Int) : Option (Bool) := if (wrap64 (a0_2 * a1_1)) < (wrap64 (a1_2 * a0_1)) then (some true) else (if (wrap64 (a0_2 * a1_1)) = (wrap64 (a1_2 * a0_1)) then (some (decide (a0_0 < a1_0))) else (some false))
set_option maxHeartbeats 8000000 in
set_option maxRecDepth 100000 in
theorem lighterref08_less.calls (a0_0 : Int) (a0_1 : Int) (a0_2 : Int) (a1_0 : Int) (a1_1 : Int) (a1_2 : Int) (r : Bool) (w : World) (h : lighterref08_less.f a0_0 a0_1 a0_2 a1_0 a1_1 a1_2 = some r) :
    Calls Try.prog 58 #[.agg #[.int .i64 a0_0, .int .i64 a0_1, .int .i64 a0_2], .agg #[.int .i64 a1_0, .int .i64 a1_1, .int .i64 a1_2]] w fun e w' => e = .returned (.bool r) ∧ Below w.heap.size w w' := by
  have hu25 := Try.underlying25
  have HB := Aside0.mk (Below.refl w.heap.size w)
  have H : (if (wrap64 (a0_2 * a1_1)) < (wrap64 (a1_2 * a0_1)) then (some true) else (if (wrap64 (a0_2 * a1_1)) = (wrap64 (a1_2 * a0_1)) then (some (decide (a0_0 < a1_0))) else (some false))) = some r := h
  clear h
  by_cases c3 : (wrap64 (a0_2 * a1_1)) < (wrap64 (a1_2 * a0_1))
  · rw [if_pos c3] at H
    have c3b0 : decide ((wrap64 (a0_2 * a1_1)) < (wrap64 (a1_2 * a0_1))) = true := decide_eq_true c3
    clear c3
    obtain rfl := Option.some.inj H
    go_enter Try.func58, Try.ntmps58
    go_wp2_with (first | ((with_reducible refine gate_dst (N := 2) rfl ?_); refine box_event ?hg (N := 2) ?hd (cs := #[.int .i64 a0_0, .int .i64 a0_1, .int .i64 a0_2]) (t := 25) ?hr ?_; (case hd => rfl); (case hg => rfl); (case hr => first | (go_simp; done) | (go_simp; rfl)); intro gb229 hg w4 hbox hb; have n0_ := Aside0.mk (below_step (by repeat (first | (with_reducible first | exact HB.out | apply below_alloc | apply pw_below_drewN | apply below_drew1) | exact HB.out)) hb); have n1_ := Aside0.mk (hbox); have n2_ := Aside0.mk ((by rw [hg]; exact (below_size (by repeat (first | (with_reducible first | exact HB.out | apply below_alloc | apply pw_below_drewN | apply below_drew1) | exact HB.out))) : w.heap.size ≤ gb229)); have n3_ := Aside0.mk ((by rw [hg]; exact (below_size (by repeat (first | (with_reducible first | exact HB.out | apply below_alloc | apply pw_below_drewN | apply below_drew1) | exact HB.out))) : w.heap.size ≤ gb229)); clear HB; have HB := n0_; have BK229 := n1_; have GW229 := n2_; have GE229 := n3_; clear n0_ n1_ n2_ n3_; clear hb hbox hg) | ((with_reducible refine gate_dst (N := 3) rfl ?_); refine box_event ?hg (N := 3) ?hd (cs := #[.int .i64 a1_0, .int .i64 a1_1, .int .i64 a1_2]) (t := 25) ?hr ?_; (case hd => rfl); (case hg => rfl); (case hr => first | (go_simp; done) | (go_simp; rfl)); intro gb230 hg w5 hbox hb; have n0_ := Aside0.mk (blk_below (g := gb229) (o := .cells #[.int .i64 a0_0, .int .i64 a0_1, .int .i64 a0_2] 25 (0, 0)) (by (with_reducible repeat (first | refine blk_drewN ?_ _ | refine blk_drew ?_ | refine blk_alloc ?_ _)); exact BK229.out) hb); have n1_ := Aside0.mk (below_step (by repeat (first | (with_reducible first | exact HB.out | apply below_alloc | apply pw_below_drewN | apply below_drew1 | refine below_set ?_ GE229.out) | exact HB.out)) hb); have n2_ := Aside0.mk (hbox); have n3_ := Aside0.mk ((by rw [hg]; exact (below_size (by repeat (first | (with_reducible first | exact HB.out | apply below_alloc | apply pw_below_drewN | apply below_drew1 | refine below_set ?_ GE229.out) | exact HB.out))) : w.heap.size ≤ gb230)); have n4_ := Aside0.mk ((by rw [hg]; exact (below_size (by repeat (first | (with_reducible first | exact HB.out | apply below_alloc | apply pw_below_drewN | apply below_drew1 | refine below_set ?_ GE229.out) | exact HB.out))) : w.heap.size ≤ gb230)); have n5_ := Aside0.mk ((by rw [hg]; exact Nat.ne_of_lt (blk_lt (g := gb229) (o := .cells #[.int .i64 a0_0, .int .i64 a0_1, .int .i64 a0_2] 25 (0, 0)) (by (with_reducible repeat (first | refine blk_drewN ?_ _ | refine blk_drew ?_ | refine blk_alloc ?_ _)); exact BK229.out)) : gb229 ≠ gb230)); have n6_ := Aside0.mk ((by rw [hg]; exact Nat.ne_of_gt (blk_lt (g := gb229) (o := .cells #[.int .i64 a0_0, .int .i64 a0_1, .int .i64 a0_2] 25 (0, 0)) (by (with_reducible repeat (first | refine blk_drewN ?_ _ | refine blk_drew ?_ | refine blk_alloc ?_ _)); exact BK229.out)) : gb230 ≠ gb229)); clear BK229; clear HB; have BK229 := n0_; have HB := n1_; have BK230 := n2_; have GW230 := n3_; have GE230 := n4_; have NB229_230 := n5_; have NB230_229 := n6_; clear n0_ n1_ n2_ n3_ n4_ n5_ n6_; clear hb hbox hg; have hnb6 := NB229_230.out; have hnc6 := NB230_229.out; have hcz7_0 : w5.cell? ⟨gb229, 0, none⟩ = some (.int .i64 a0_0) := (blk_cell BK229.out 0).trans rfl; have hcz7_1 : w5.cell? ⟨gb229, 1, none⟩ = some (.int .i64 a0_1) := (blk_cell BK229.out 1).trans rfl; have hcz7_2 : w5.cell? ⟨gb229, 2, none⟩ = some (.int .i64 a0_2) := (blk_cell BK229.out 2).trans rfl; have hfz7_0 := blk_frozen BK229.out 0; have hfz7_1 := blk_frozen BK229.out 1; have hfz7_2 := blk_frozen BK229.out 2; have hcz8_0 : w5.cell? ⟨gb230, 0, none⟩ = some (.int .i64 a1_0) := (blk_cell BK230.out 0).trans rfl; have hcz8_1 : w5.cell? ⟨gb230, 1, none⟩ = some (.int .i64 a1_1) := (blk_cell BK230.out 1).trans rfl; have hcz8_2 : w5.cell? ⟨gb230, 2, none⟩ = some (.int .i64 a1_2) := (blk_cell BK230.out 2).trans rfl; have hfz8_0 := blk_frozen BK230.out 0; have hfz8_1 := blk_frozen BK230.out 1; have hfz8_2 := blk_frozen BK230.out 2))
    go_ret
    exact ⟨by first | rfl | (simp [errW_none, errW_some] <;> rfl) | (simp [*, errW_none, errW_some] <;> rfl), by repeat (first | (with_reducible first | exact HB.out | apply below_alloc | apply pw_below_drewN | apply below_drew1 | refine below_set ?_ GE229.out | refine below_set ?_ GE230.out) | exact HB.out)⟩
  · rw [if_neg c3] at H
    have c3b0 : decide ((wrap64 (a0_2 * a1_1)) < (wrap64 (a1_2 * a0_1))) = false := decide_eq_false c3
    clear c3
    by_cases c9 : (wrap64 (a0_2 * a1_1)) = (wrap64 (a1_2 * a0_1))
    · rw [if_pos c9] at H
      have c9b0 : ((wrap64 (a0_2 * a1_1)) == (wrap64 (a1_2 * a0_1))) = true := beq_iff_eq.mpr c9
      have c9b1 : ((wrap64 (a0_2 * a1_1)) != (wrap64 (a1_2 * a0_1))) = false := bne_eq_false_iff_eq.mpr c9
      clear c9
      obtain rfl := Option.some.inj H
      go_enter Try.func58, Try.ntmps58
      go_wp2_with (first | ((with_reducible refine gate_dst (N := 2) rfl ?_); refine box_event ?hg (N := 2) ?hd (cs := #[.int .i64 a0_0, .int .i64 a0_1, .int .i64 a0_2]) (t := 25) ?hr ?_; (case hd => rfl); (case hg => rfl); (case hr => first | (go_simp; done) | (go_simp; rfl)); intro gb229 hg w10 hbox hb; have n0_ := Aside0.mk (below_step (by repeat (first | (with_reducible first | exact HB.out | apply below_alloc | apply pw_below_drewN | apply below_drew1) | exact HB.out)) hb); have n1_ := Aside0.mk (hbox); have n2_ := Aside0.mk ((by rw [hg]; exact (below_size (by repeat (first | (with_reducible first | exact HB.out | apply below_alloc | apply pw_below_drewN | apply below_drew1) | exact HB.out))) : w.heap.size ≤ gb229)); have n3_ := Aside0.mk ((by rw [hg]; exact (below_size (by repeat (first | (with_reducible first | exact HB.out | apply below_alloc | apply pw_below_drewN | apply below_drew1) | exact HB.out))) : w.heap.size ≤ gb229)); clear HB; have HB := n0_; have BK229 := n1_; have GW229 := n2_; have GE229 := n3_; clear n0_ n1_ n2_ n3_; clear hb hbox hg) | ((with_reducible refine gate_dst (N := 3) rfl ?_); refine box_event ?hg (N := 3) ?hd (cs := #[.int .i64 a1_0, .int .i64 a1_1, .int .i64 a1_2]) (t := 25) ?hr ?_; (case hd => rfl); (case hg => rfl); (case hr => first | (go_simp; done) | (go_simp; rfl)); intro gb230 hg w11 hbox hb; have n0_ := Aside0.mk (blk_below (g := gb229) (o := .cells #[.int .i64 a0_0, .int .i64 a0_1, .int .i64 a0_2] 25 (0, 0)) (by (with_reducible repeat (first | refine blk_drewN ?_ _ | refine blk_drew ?_ | refine blk_alloc ?_ _)); exact BK229.out) hb); have n1_ := Aside0.mk (below_step (by repeat (first | (with_reducible first | exact HB.out | apply below_alloc | apply pw_below_drewN | apply below_drew1 | refine below_set ?_ GE229.out) | exact HB.out)) hb); have n2_ := Aside0.mk (hbox); have n3_ := Aside0.mk ((by rw [hg]; exact (below_size (by repeat (first | (with_reducible first | exact HB.out | apply below_alloc | apply pw_below_drewN | apply below_drew1 | refine below_set ?_ GE229.out) | exact HB.out))) : w.heap.size ≤ gb230)); have n4_ := Aside0.mk ((by rw [hg]; exact (below_size (by repeat (first | (with_reducible first | exact HB.out | apply below_alloc | apply pw_below_drewN | apply below_drew1 | refine below_set ?_ GE229.out) | exact HB.out))) : w.heap.size ≤ gb230)); have n5_ := Aside0.mk ((by rw [hg]; exact Nat.ne_of_lt (blk_lt (g := gb229) (o := .cells #[.int .i64 a0_0, .int .i64 a0_1, .int .i64 a0_2] 25 (0, 0)) (by (with_reducible repeat (first | refine blk_drewN ?_ _ | refine blk_drew ?_ | refine blk_alloc ?_ _)); exact BK229.out)) : gb229 ≠ gb230)); have n6_ := Aside0.mk ((by rw [hg]; exact Nat.ne_of_gt (blk_lt (g := gb229) (o := .cells #[.int .i64 a0_0, .int .i64 a0_1, .int .i64 a0_2] 25 (0, 0)) (by (with_reducible repeat (first | refine blk_drewN ?_ _ | refine blk_drew ?_ | refine blk_alloc ?_ _)); exact BK229.out)) : gb230 ≠ gb229)); clear BK229; clear HB; have BK229 := n0_; have HB := n1_; have BK230 := n2_; have GW230 := n3_; have GE230 := n4_; have NB229_230 := n5_; have NB230_229 := n6_; clear n0_ n1_ n2_ n3_ n4_ n5_ n6_; clear hb hbox hg; have hnb12 := NB229_230.out; have hnc12 := NB230_229.out; have hcz13_0 : w11.cell? ⟨gb229, 0, none⟩ = some (.int .i64 a0_0) := (blk_cell BK229.out 0).trans rfl; have hcz13_1 : w11.cell? ⟨gb229, 1, none⟩ = some (.int .i64 a0_1) := (blk_cell BK229.out 1).trans rfl; have hcz13_2 : w11.cell? ⟨gb229, 2, none⟩ = some (.int .i64 a0_2) := (blk_cell BK229.out 2).trans rfl; have hfz13_0 := blk_frozen BK229.out 0; have hfz13_1 := blk_frozen BK229.out 1; have hfz13_2 := blk_frozen BK229.out 2; have hcz14_0 : w11.cell? ⟨gb230, 0, none⟩ = some (.int .i64 a1_0) := (blk_cell BK230.out 0).trans rfl; have hcz14_1 : w11.cell? ⟨gb230, 1, none⟩ = some (.int .i64 a1_1) := (blk_cell BK230.out 1).trans rfl; have hcz14_2 : w11.cell? ⟨gb230, 2, none⟩ = some (.int .i64 a1_2) := (blk_cell BK230.out 2).trans rfl; have hfz14_0 := blk_frozen BK230.out 0; have hfz14_1 := blk_frozen BK230.out 1; have hfz14_2 := blk_frozen BK230.out 2))
      go_ret
      exact ⟨by first | rfl | (simp [errW_none, errW_some] <;> rfl) | (simp [*, errW_none, errW_some] <;> rfl), by repeat (first | (with_reducible first | exact HB.out | apply below_alloc | apply pw_below_drewN | apply below_drew1 | refine below_set ?_ GE229.out | refine below_set ?_ GE230.out) | exact HB.out)⟩
    · rw [if_neg c9] at H
      have c9b0 : ((wrap64 (a0_2 * a1_1)) == (wrap64 (a1_2 * a0_1))) = false := beq_eq_false_iff_ne.mpr c9
      have c9b1 : ((wrap64 (a0_2 * a1_1)) != (wrap64 (a1_2 * a0_1))) = true := bne_iff_ne.mpr c9
      obtain rfl := Option.some.inj H
      go_enter Try.func58, Try.ntmps58
      go_wp2_with (first | ((with_reducible refine gate_dst (N := 2) rfl ?_); refine box_event ?hg (N := 2) ?hd (cs := #[.int .i64 a0_0, .int .i64 a0_1, .int .i64 a0_2]) (t := 25) ?hr ?_; (case hd => rfl); (case hg => rfl); (case hr => first | (go_simp; done) | (go_simp; rfl)); intro gb229 hg w15 hbox hb; have n0_ := Aside0.mk (below_step (by repeat (first | (with_reducible first | exact HB.out | apply below_alloc | apply pw_below_drewN | apply below_drew1) | exact HB.out)) hb); have n1_ := Aside0.mk (hbox); have n2_ := Aside0.mk ((by rw [hg]; exact (below_size (by repeat (first | (with_reducible first | exact HB.out | apply below_alloc | apply pw_below_drewN | apply below_drew1) | exact HB.out))) : w.heap.size ≤ gb229)); have n3_ := Aside0.mk ((by rw [hg]; exact (below_size (by repeat (first | (with_reducible first | exact HB.out | apply below_alloc | apply pw_below_drewN | apply below_drew1) | exact HB.out))) : w.heap.size ≤ gb229)); clear HB; have HB := n0_; have BK229 := n1_; have GW229 := n2_; have GE229 := n3_; clear n0_ n1_ n2_ n3_; clear hb hbox hg) | ((with_reducible refine gate_dst (N := 3) rfl ?_); refine box_event ?hg (N := 3) ?hd (cs := #[.int .i64 a1_0, .int .i64 a1_1, .int .i64 a1_2]) (t := 25) ?hr ?_; (case hd => rfl); (case hg => rfl); (case hr => first | (go_simp; done) | (go_simp; rfl)); intro gb230 hg w16 hbox hb; have n0_ := Aside0.mk (blk_below (g := gb229) (o := .cells #[.int .i64 a0_0, .int .i64 a0_1, .int .i64 a0_2] 25 (0, 0)) (by (with_reducible repeat (first | refine blk_drewN ?_ _ | refine blk_drew ?_ | refine blk_alloc ?_ _)); exact BK229.out) hb); have n1_ := Aside0.mk (below_step (by repeat (first | (with_reducible first | exact HB.out | apply below_alloc | apply pw_below_drewN | apply below_drew1 | refine below_set ?_ GE229.out) | exact HB.out)) hb); have n2_ := Aside0.mk (hbox); have n3_ := Aside0.mk ((by rw [hg]; exact (below_size (by repeat (first | (with_reducible first | exact HB.out | apply below_alloc | apply pw_below_drewN | apply below_drew1 | refine below_set ?_ GE229.out) | exact HB.out))) : w.heap.size ≤ gb230)); have n4_ := Aside0.mk ((by rw [hg]; exact (below_size (by repeat (first | (with_reducible first | exact HB.out | apply below_alloc | apply pw_below_drewN | apply below_drew1 | refine below_set ?_ GE229.out) | exact HB.out))) : w.heap.size ≤ gb230)); have n5_ := Aside0.mk ((by rw [hg]; exact Nat.ne_of_lt (blk_lt (g := gb229) (o := .cells #[.int .i64 a0_0, .int .i64 a0_1, .int .i64 a0_2] 25 (0, 0)) (by (with_reducible repeat (first | refine blk_drewN ?_ _ | refine blk_drew ?_ | refine blk_alloc ?_ _)); exact BK229.out)) : gb229 ≠ gb230)); have n6_ := Aside0.mk ((by rw [hg]; exact Nat.ne_of_gt (blk_lt (g := gb229) (o := .cells #[.int .i64 a0_0, .int .i64 a0_1, .int .i64 a0_2] 25 (0, 0)) (by (with_reducible repeat (first | refine blk_drewN ?_ _ | refine blk_drew ?_ | refine blk_alloc ?_ _)); exact BK229.out)) : gb230 ≠ gb229)); clear BK229; clear HB; have BK229 := n0_; have HB := n1_; have BK230 := n2_; have GW230 := n3_; have GE230 := n4_; have NB229_230 := n5_; have NB230_229 := n6_; clear n0_ n1_ n2_ n3_ n4_ n5_ n6_; clear hb hbox hg; have hnb17 := NB229_230.out; have hnc17 := NB230_229.out; have hcz18_0 : w16.cell? ⟨gb229, 0, none⟩ = some (.int .i64 a0_0) := (blk_cell BK229.out 0).trans rfl; have hcz18_1 : w16.cell? ⟨gb229, 1, none⟩ = some (.int .i64 a0_1) := (blk_cell BK229.out 1).trans rfl; have hcz18_2 : w16.cell? ⟨gb229, 2, none⟩ = some (.int .i64 a0_2) := (blk_cell BK229.out 2).trans rfl; have hfz18_0 := blk_frozen BK229.out 0; have hfz18_1 := blk_frozen BK229.out 1; have hfz18_2 := blk_frozen BK229.out 2; have hcz19_0 : w16.cell? ⟨gb230, 0, none⟩ = some (.int .i64 a1_0) := (blk_cell BK230.out 0).trans rfl; have hcz19_1 : w16.cell? ⟨gb230, 1, none⟩ = some (.int .i64 a1_1) := (blk_cell BK230.out 1).trans rfl; have hcz19_2 : w16.cell? ⟨gb230, 2, none⟩ = some (.int .i64 a1_2) := (blk_cell BK230.out 2).trans rfl; have hfz19_0 := blk_frozen BK230.out 0; have hfz19_1 := blk_frozen BK230.out 1; have hfz19_2 := blk_frozen BK230.out 2))
      go_ret
      exact ⟨by first | rfl | (simp [errW_none, errW_some] <;> rfl) | (simp [*, errW_none, errW_some] <;> rfl), by repeat (first | (with_reducible first | exact HB.out | apply below_alloc | apply pw_below_drewN | apply below_drew1 | refine below_set ?_ GE229.out | refine below_set ?_ GE230.out) | exact HB.out)⟩
end Go.Proofs.Ytcjeegomonegpaa.PLivePlays
