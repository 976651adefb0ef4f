/- YtcjeegomonegpaaCb6: what this claim rests on. Words and contracts are those of the kit's print (print.sh wrote them, those that nothing here reaches are left out); all else is own work. Conditions: what each theorem says. -/
import Derived.Test.YtcjeegomonegpaaCb5
import Derived.Test.YtcjeegomonegpaaRows
import Derived.Deep.Slices
import Derived.OpenShut
import Derived.ChangeArms
namespace Go.Proofs.Ytcjeegomonegpaa.PLivePlays
open Go.RowKit Go.Proofs.YtcjeegomonegpaaW.PrintWords Go.Proofs.YtcjeegomonegpaaW.PrintLast Go.Proofs.YtcjeegomonegpaaW.PrintMore
attribute [local go_sem] max2_int min2_int max_two min_two max_three min_three max_four min_four   -- for this text's walks alone
set_option linter.unusedVariables false
set_option linter.unusedSimpArgs false
mutual
def lighterref08_Victims.l0 : Nat → List (S25) → Int → List (S25) → Int → Option (List Int)
  | 0, _, _, _, _ => none
  | k + 1, x0, x1, x5, x6 => if x6 < (x0.length : Int) then (if 0 ≤ x6 then (if (wrap64 (((rd_T25 x0 x6).f2) * 100)) ≥ (wrap64 (x1 * ((rd_T25 x0 x6).f1))) then (lighterref08_Victims.l0 k x0 x1 x5 (wrap64 (x6 + 1))) else (lighterref08_Victims.l1 k x0 x1 x5 x6 ([] : List (S25)) 0)) else (none)) else (lighterref08_Victims.l2 k x5 ([] : List Int) 0)
def lighterref08_Victims.l1 : Nat → List (S25) → Int → List (S25) → Int → List (S25) → Int → Option (List Int)
  | 0, _, _, _, _, _, _ => none
  | k + 1, x0, x1, x5, x6, x7, x8 => if x8 < (x5.length : Int) then (if 0 ≤ x8 then (if 0 ≤ x6 then (if x6 < (x0.length : Int) then ((lighterref08_less.f ((rd_T25 x5 x8).f0) ((rd_T25 x5 x8).f1) ((rd_T25 x5 x8).f2) ((rd_T25 x0 x6).f0) ((rd_T25 x0 x6).f1) ((rd_T25 x0 x6).f2)).bind fun t235 => (if t235 = true then (if x7.length < 5864062014805 then (lighterref08_Victims.l1 k x0 x1 x5 x6 (x7 ++ [(⟨(rd_T25 x5 x8).f0, (rd_T25 x5 x8).f1, (rd_T25 x5 x8).f2⟩ : S25)]) (wrap64 (x8 + 1))) else (none)) else (if x7.length < 5864062014805 then ((some (x7 ++ [(⟨(rd_T25 x0 x6).f0, (rd_T25 x0 x6).f1, (rd_T25 x0 x6).f2⟩ : S25)] : List (S25))).bind fun y241 => (if x8 ≤ (x5.length : Int) then ((some (x5.drop (x8 : Int).toNat : List (S25))).bind fun y244 => (if y241.length + y244.length < 5864062014805 then (lighterref08_Victims.l0 k x0 x1 (y241 ++ y244) (wrap64 (x6 + 1))) else (none))) else (none))) else (none)))) else (none)) else (none)) else (none)) else (if 0 ≤ x6 then (if x6 < (x0.length : Int) then (if x7.length < 5864062014805 then ((some (x7 ++ [(⟨(rd_T25 x0 x6).f0, (rd_T25 x0 x6).f1, (rd_T25 x0 x6).f2⟩ : S25)] : List (S25))).bind fun y252 => (if 0 ≤ x8 then (if x8 ≤ (x5.length : Int) then ((some (x5.drop (x8 : Int).toNat : List (S25))).bind fun y255 => (if y252.length + y255.length < 5864062014805 then (lighterref08_Victims.l0 k x0 x1 (y252 ++ y255) (wrap64 (x6 + 1))) else (none))) else (none)) else (none))) else (none)) else (none)) else (none))
def lighterref08_Victims.l2 : Nat → List (S25) → List Int → Int → Option (List Int)
  | 0, _, _, _ => none
  | k + 1, x5, x9, x10 => if x10 < (x5.length : Int) then (if 0 ≤ x10 then (if x9.length < 17592186044416 then (lighterref08_Victims.l2 k x5 (x9 ++ [(rd_T25 x5 x10).f0]) (wrap64 (x10 + 1))) else (none)) else (none)) else (some x9)
end
def lighterref08_Victims.f (k : Nat) (l0 : List (S25)) (a1 : Int) : Option (List Int) := lighterref08_Victims.l0 k l0 a1 ([] : List (S25)) 0
def lighterref08_Victims.T5 : Bool × List (List Nat × List Nat) := (true, [([], []), ([], []), ([0, 1], [0, 1]), ([2], [2]), ([3], [3]), ([4], [4]), ([], []), ([], []), ([], []), ([7, 8], [7, 8]), ([9], [9]), ([10], [10]), ([6, 11], [6, 11]), ([5, 12], [5, 12])])
def lighterref08_Victims.B5 : List Nat := [0, 0, 3, 7, 15, 31, 0, 0, 0, 384, 896, 1920, 4032, 8191]
theorem lighterref08_Victims.tab5 : rtab .any (opsOf Try.f39 5) = lighterref08_Victims.T5 := by kernel_rfl
theorem lighterref08_Victims.bits5 : waitsOk lighterref08_Victims.T5.2 lighterref08_Victims.B5 = true := by kernel_rfl
def lighterref08_Victims.T8 : Bool × List (List Nat × List Nat) := (true, [([], []), ([], []), ([1], [1]), ([0, 2], [0, 2]), ([3], [3]), ([4], [4]), ([4], [4]), ([5, 6, 4], [4, 5, 6]), ([7, 4], [4, 7]), ([4], [4]), ([4], [4]), ([9, 10, 4], [4, 9, 10]), ([11, 4], [4, 11]), ([8, 12, 4, 4], [4, 8, 12]), ([4, 13], [4, 13])])
def lighterref08_Victims.B8 : List Nat := [0, 0, 2, 7, 15, 31, 31, 127, 255, 31, 31, 1567, 3615, 8191, 16383]
theorem lighterref08_Victims.tab8 : rtab .any (opsOf Try.f39 8) = lighterref08_Victims.T8 := by kernel_rfl
theorem lighterref08_Victims.bits8 : waitsOk lighterref08_Victims.T8.2 lighterref08_Victims.B8 = true := by kernel_rfl
set_option maxHeartbeats 8000000 in
set_option maxRecDepth 100000 in
theorem lighterref08_Victims.calls (k : Nat) (A0 : Option Addr) (c0 : Nat) (l0 : List (S25)) (a1 : Int) (r : List Int) (w : World) (hr0 : Kd.C k25 w A0 l0.length l0) (hc0 : l0.length ≤ c0) (h : lighterref08_Victims.f k l0 a1 = some r) :
    Calls Try.prog 39 #[.slice A0 l0.length c0, .int .i64 a1] w fun e w' => ∃ v0_ : Value, e = .returned (v0_) ∧ Kd.R (Kd.int .i64) 3 w' w.heap.size (fun _ => True) v0_ r ∧ Below w.heap.size w w' := by
  have hu25 := Try.underlying25
  have HR0 := Aside0.mk hr0
  have HC0 := Aside0.mk hc0
  clear hr0 hc0
  have HB := Aside0.mk (Below.refl w.heap.size w)
  have H : (lighterref08_Victims.l0 k l0 a1 ([] : List (S25)) 0) = some r := h
  clear h
  have H' := Aside0.mk H
  clear H
  go_enter Try.func39, Try.ntmps39
  go_wp2
  go_loopg [5, 6] k (fun kq v5 v6 w' => ∃ (x5_1 : List (S25)) (x6_1 : Int), v6 = .int .i64 x6_1 ∧ Aside0 (lighterref08_Victims.l0 kq l0 a1 x5_1 x6_1 = some r) ∧ Aside0 (kq ≤ k) ∧ Aside0 (Kd.R k25 25 w' w.heap.size (fun _ => True) v5 x5_1) ∧ Aside0 (Below w.heap.size w w'))
  case atStart => exact ⟨(([] : List (S25))), (0), (by first | rfl | (simp; done) | (simp [*]; done)), H', ⟨Nat.le_refl _⟩, ⟨by first | exact Kd.R_nil _ _ _ _ _ | exact Kd.N_nil _ _ _ _ _ | exact Kd.V_nil _ _ _ _ _ | exact Kd.Q_nil _ _ _ _ _ | exact Kd.S_nil _ _ _ _ _⟩, ⟨by repeat (first | (with_reducible first | exact HB.out | apply below_alloc | apply pw_below_drewN | apply below_drew1) | exact HB.out)⟩⟩
  case round =>
    clear H'
    try clear p2
    obtain ⟨x5_1, x6_1, rfl, HA, HK1, HO_5, HB⟩ := hrel
    cases gk with
    | zero => exact absurd HA.out (by simp [lighterref08_Victims.l0])
    | succ k1 =>
      have H := HA.out
      clear HA
      simp only [lighterref08_Victims.l0] at H
      by_cases c3 : x6_1 < (l0.length : Int)
      · rw [if_pos c3] at H
        have c3b0 : decide (x6_1 < (l0.length : Int)) = true := decide_eq_true c3
        clear c3
        by_cases c4 : 0 ≤ x6_1
        · rw [if_pos c4] at H
          have c4b0 : decide (0 ≤ x6_1) = true := decide_eq_true c4
          clear c4
          by_cases c5 : (wrap64 (((rd_T25 l0 x6_1).f2) * 100)) ≥ (wrap64 (a1 * ((rd_T25 l0 x6_1).f1)))
          · rw [if_pos c5] at H
            have c5b0 : decide ((wrap64 (a1 * ((rd_T25 l0 x6_1).f1))) ≤ (wrap64 (((rd_T25 l0 x6_1).f2) * 100))) = true := decide_eq_true c5
            clear c5
            have H' := Aside0.mk H
            clear H
            try go_wp2
            have n0_ := Aside0.mk (Kd.R_drew HO_5.out)
            have n1_ := Aside0.mk (below_drew1 HB.out)
            clear HO_5
            clear HB
            have HO_5 := n0_
            have HB := n1_
            clear n0_ n1_
            have p231 : 0 ≤ (x6_1 : Int) := of_decide_eq_true (by first | (with_reducible assumption) | assumption)
            have q231 : x6_1 < (l0.length : Int) := of_decide_eq_true (by first | (with_reducible assumption) | assumption)
            obtain ⟨ad231, e231, hx231_0, hx231_1, hx231_2⟩ := at_T25 HR0.out x6_1 p231 q231
            have hw231_2 := hx231_2
            have hw231_1 := hx231_1
            have hw231_0 := hx231_0
            cases e231
            replace hx231_0 := (HB.out.cell (World.block_lt_of_cell? w _ hx231_0)).trans hx231_0
            replace hx231_1 := (HB.out.cell (World.block_lt_of_cell? w _ hx231_1)).trans hx231_1
            replace hx231_2 := (HB.out.cell (World.block_lt_of_cell? w _ hx231_2)).trans hx231_2
            replace p231 := eq_true p231
            replace q231 := eq_true q231
            have p232 : 0 ≤ (x6_1 : Int) := of_decide_eq_true (by first | (with_reducible assumption) | assumption)
            have q232 : x6_1 < (l0.length : Int) := of_decide_eq_true (by first | (with_reducible assumption) | assumption)
            obtain ⟨ad232, e232, hx232_0, hx232_1, hx232_2⟩ := at_T25 HR0.out x6_1 p232 q232
            have hw232_2 := hx232_2
            have hw232_1 := hx232_1
            have hw232_0 := hx232_0
            obtain rfl : ad231 = ad232 := (by injection e232)
            replace hx232_0 := (HB.out.cell (World.block_lt_of_cell? w _ hx232_0)).trans hx232_0
            replace hx232_1 := (HB.out.cell (World.block_lt_of_cell? w _ hx232_1)).trans hx232_1
            replace hx232_2 := (HB.out.cell (World.block_lt_of_cell? w _ hx232_2)).trans hx232_2
            replace p232 := eq_true p232
            replace q232 := eq_true q232
            refine start_ (n := 14) (S := fun w' => w'.cell? (ad231.add ((x6_1).toNat * 3)) = some (.int .i64 ((rd_T25 l0 x6_1).f0)) ∧ w'.cell? ⟨(ad231.add ((x6_1).toNat * 3)).block, (ad231.add ((x6_1).toNat * 3)).off + 1, none⟩ = some (.int .i64 ((rd_T25 l0 x6_1).f1)) ∧ w'.cell? ⟨(ad231.add ((x6_1).toNat * 3)).block, (ad231.add ((x6_1).toNat * 3)).off + 2, none⟩ = some (.int .i64 ((rd_T25 l0 x6_1).f2)) ∧ w'.cell? (ad231.add ((x6_1).toNat * 3)) = some (.int .i64 ((rd_T25 l0 x6_1).f0)) ∧ w'.cell? ⟨(ad231.add ((x6_1).toNat * 3)).block, (ad231.add ((x6_1).toNat * 3)).off + 1, none⟩ = some (.int .i64 ((rd_T25 l0 x6_1).f1)) ∧ w'.cell? ⟨(ad231.add ((x6_1).toNat * 3)).block, (ad231.add ((x6_1).toNat * 3)).off + 2, none⟩ = some (.int .i64 ((rd_T25 l0 x6_1).f2))) (ds := []) #[false, false, false, false, false, false, false, false, false, false, false, false, false, false] (by kernel_rfl) rfl rfl ⟨((HB.out.cell (World.block_lt_of_cell? w _ hw231_0)).trans hw231_0), ((HB.out.cell (World.block_lt_of_cell? w _ hw231_1)).trans hw231_1), ((HB.out.cell (World.block_lt_of_cell? w _ hw231_2)).trans hw231_2), ((HB.out.cell (World.block_lt_of_cell? w _ hw232_0)).trans hw232_0), ((HB.out.cell (World.block_lt_of_cell? w _ hw232_1)).trans hw232_1), ((HB.out.cell (World.block_lt_of_cell? w _ hw232_2)).trans hw232_2)⟩ (fun hHeld => ?_); refine with_tabW lighterref08_Victims.tab5 lighterref08_Victims.bits5 (fun HT_ HW_ => ?_)
            generalize wr.drew = w6 at HO_5 HB hx231_0 hx231_1 hx231_2 hx232_0 hx232_1 hx232_2 hHeld ⊢
            refine pure_ (i := 0) (N := some 17) (v := ?_) (a' := ?_) #[true, false, false, false, false, false, false, false, false, false, false, false, false, false] rfl rfl (any_of HT_.out (by kernel_rfl)) (fun _ _ _ h => h) (Or.inl ⟨by rfl, ?_⟩) ?_ ?_
            rotate_left
            · intro w'
              go_simp
              with_reducible rfl
            rotate_left
            · simp only [Act.put, List.setIfInBounds_toArray, List.set_cons_zero, List.set_cons_succ, i64_w, i32_w]
              rfl
            refine pure_ (i := 1) (N := some 18) (v := ?_) (a' := ?_) #[true, true, false, false, false, false, false, false, false, false, false, false, false, false] rfl rfl (any_of HT_.out (by kernel_rfl)) (fun _ _ _ h => h) (Or.inl ⟨by rfl, ?_⟩) ?_ ?_
            rotate_left
            · intro w'
              go_simp
              with_reducible rfl
            rotate_left
            · simp only [Act.put, List.setIfInBounds_toArray, List.set_cons_zero, List.set_cons_succ, i64_w, i32_w]
              rfl
            refine pure_ (i := 2) (N := some 19) (v := ?_) (a' := ?_) #[true, true, true, false, false, false, false, false, false, false, false, false, false, false] rfl rfl (any_of HT_.out (by kernel_rfl)) (fun _ _ _ h => h) (Or.inl ⟨by rfl, ?_⟩) ?_ ?_
            rotate_left
            · intro w'
              go_simp
              with_reducible rfl
            rotate_left
            · simp only [Act.put, List.setIfInBounds_toArray, List.set_cons_zero, List.set_cons_succ, i64_w, i32_w]
              rfl
            refine pure_ (i := 3) (N := some 20) (v := ?_) (a' := ?_) #[true, true, true, true, false, false, false, false, false, false, false, false, false, false] rfl rfl (any_of HT_.out (by kernel_rfl)) (fun _ _ _ h => h) (Or.inl ⟨by rfl, ?_⟩) ?_ ?_
            rotate_left
            · intro w'
              go_simp
              with_reducible rfl
            rotate_left
            · simp only [Act.put, List.setIfInBounds_toArray, List.set_cons_zero, List.set_cons_succ, i64_w, i32_w]
              rfl
            refine pure_ (i := 6) (N := some 23) (v := ?_) (a' := ?_) #[true, true, true, true, false, false, true, false, false, false, false, false, false, false] rfl rfl (any_of HT_.out (by kernel_rfl)) (fun _ _ _ h => h) (Or.inl ⟨by rfl, ?_⟩) ?_ ?_
            rotate_left
            · intro w'
              go_simp
              with_reducible rfl
            rotate_left
            · simp only [Act.put, List.setIfInBounds_toArray, List.set_cons_zero, List.set_cons_succ, i64_w, i32_w]
              rfl
            refine pure_ (i := 7) (N := some 24) (v := ?_) (a' := ?_) #[true, true, true, true, false, false, true, true, false, false, false, false, false, false] rfl rfl (any_of HT_.out (by kernel_rfl)) (fun _ _ _ h => h) (Or.inl ⟨by rfl, ?_⟩) ?_ ?_
            rotate_left
            · intro w'
              go_simp
              with_reducible rfl
            rotate_left
            · simp only [Act.put, List.setIfInBounds_toArray, List.set_cons_zero, List.set_cons_succ, i64_w, i32_w]
              rfl
            refine pure_ (i := 8) (N := some 25) (v := ?_) (a' := ?_) #[true, true, true, true, false, false, true, true, true, false, false, false, false, false] rfl rfl (any_of HT_.out (by kernel_rfl)) (fun _ _ _ h => h) (Or.inl ⟨by rfl, ?_⟩) ?_ ?_
            rotate_left
            · intro w'
              go_simp
              with_reducible rfl
            rotate_left
            · simp only [Act.put, List.setIfInBounds_toArray, List.set_cons_zero, List.set_cons_succ, i64_w, i32_w]
              rfl
            refine pure_ (i := 9) (N := some 26) (v := ?_) (a' := ?_) #[true, true, true, true, false, false, true, true, true, true, false, false, false, false] rfl rfl (any_of HT_.out (by kernel_rfl)) (fun _ _ _ h => h) (Or.inl ⟨by rfl, ?_⟩) ?_ ?_
            rotate_left
            · intro w'
              go_simp
              with_reducible rfl
            rotate_left
            · simp only [Act.put, List.setIfInBounds_toArray, List.set_cons_zero, List.set_cons_succ, i64_w, i32_w]
              rfl
            refine pure_ (i := 10) (N := some 27) (v := ?_) (a' := ?_) #[true, true, true, true, false, false, true, true, true, true, true, false, false, false] rfl rfl (any_of HT_.out (by kernel_rfl)) (fun _ _ _ h => h) (Or.inl ⟨by rfl, ?_⟩) ?_ ?_
            rotate_left
            · intro w'
              go_simp
              with_reducible rfl
            rotate_left
            · simp only [Act.put, List.setIfInBounds_toArray, List.set_cons_zero, List.set_cons_succ, i64_w, i32_w]
              rfl
            refine take_ (i := 4) (N := some 21) (v := ?_) (a' := ?_) #[true, true, true, true, true, false, true, true, true, true, true, false, false, false] rfl rfl (take_ofW HT_.out HW_.out (by kernel_rfl)) (fun _ _ _ h => h) (Or.inl ⟨by rfl, ?_⟩) hHeld ?_ ?_
            rotate_left
            · rintro w' ⟨s0, s1, s2, s3, s4, s5⟩
              go_simp
              with_reducible rfl
            rotate_left
            · simp only [Act.put, List.setIfInBounds_toArray, List.set_cons_zero, List.set_cons_succ, i64_w, i32_w]
              rfl
            refine pure_ (i := 5) (N := some 22) (v := ?_) (a' := ?_) #[true, true, true, true, true, true, true, true, true, true, true, false, false, false] rfl rfl (any_of HT_.out (by kernel_rfl)) (fun _ _ _ h => h) (Or.inl ⟨by rfl, ?_⟩) ?_ ?_
            rotate_left
            · intro w'
              go_simp
              with_reducible rfl
            rotate_left
            · simp only [Act.put, List.setIfInBounds_toArray, List.set_cons_zero, List.set_cons_succ, i64_w, i32_w]
              rfl
            refine take_ (i := 11) (N := some 28) (v := ?_) (a' := ?_) #[true, true, true, true, true, true, true, true, true, true, true, true, false, false] rfl rfl (take_ofW HT_.out HW_.out (by kernel_rfl)) (fun _ _ _ h => h) (Or.inl ⟨by rfl, ?_⟩) hHeld ?_ ?_
            rotate_left
            · rintro w' ⟨s0, s1, s2, s3, s4, s5⟩
              go_simp
              with_reducible rfl
            rotate_left
            · simp only [Act.put, List.setIfInBounds_toArray, List.set_cons_zero, List.set_cons_succ, i64_w, i32_w]
              rfl
            refine pure_ (i := 12) (N := some 29) (v := ?_) (a' := ?_) #[true, true, true, true, true, true, true, true, true, true, true, true, true, false] rfl rfl (any_of HT_.out (by kernel_rfl)) (fun _ _ _ h => h) (Or.inl ⟨by rfl, ?_⟩) ?_ ?_
            rotate_left
            · intro w'
              go_simp
              with_reducible rfl
            rotate_left
            · simp only [Act.put, List.setIfInBounds_toArray, List.set_cons_zero, List.set_cons_succ, i64_w, i32_w]
              rfl
            refine pure_ (i := 13) (N := some 30) (v := ?_) (a' := ?_) #[true, true, true, true, true, true, true, true, true, true, true, true, true, true] rfl rfl (any_of HT_.out (by kernel_rfl)) (fun _ _ _ h => h) (Or.inl ⟨by rfl, ?_⟩) ?_ ?_
            rotate_left
            · intro w'
              go_simp
              with_reducible rfl
            rotate_left
            · simp only [Act.put, List.setIfInBounds_toArray, List.set_cons_zero, List.set_cons_succ, i64_w, i32_w]
              rfl
            refine done_ (done_of HT_.out (by kernel_rfl)) ?_
            try go_wp2
            go_roundg k1
            case measure => have := HK1.out; omega
            case rel => exact ⟨(x5_1), (wrap64 (x6_1 + 1)), (by first | rfl | (simp; done) | (simp [*]; done)), H', ⟨by have := HK1.out; omega⟩, ⟨by (with_reducible repeat (first | apply Kd.R_alloc | apply Kd.R_drewN | apply Kd.R_drew)); exact HO_5.out⟩, ⟨by repeat (first | (with_reducible first | exact HB.out | apply below_alloc | apply pw_below_drewN | apply below_drew1) | exact HB.out)⟩⟩
          · rw [if_neg c5] at H
            have c5b0 : decide ((wrap64 (a1 * ((rd_T25 l0 x6_1).f1))) ≤ (wrap64 (((rd_T25 l0 x6_1).f2) * 100))) = false := decide_eq_false c5
            clear c5
            have H' := Aside0.mk H
            clear H
            try go_wp2
            have n0_ := Aside0.mk (Kd.R_drew HO_5.out)
            have n1_ := Aside0.mk (below_drew1 HB.out)
            clear HO_5
            clear HB
            have HO_5 := n0_
            have HB := n1_
            clear n0_ n1_
            have p231 : 0 ≤ (x6_1 : Int) := of_decide_eq_true (by first | (with_reducible assumption) | assumption)
            have q231 : x6_1 < (l0.length : Int) := of_decide_eq_true (by first | (with_reducible assumption) | assumption)
            obtain ⟨ad231, e231, hx231_0, hx231_1, hx231_2⟩ := at_T25 HR0.out x6_1 p231 q231
            have hw231_2 := hx231_2
            have hw231_1 := hx231_1
            have hw231_0 := hx231_0
            cases e231
            replace hx231_0 := (HB.out.cell (World.block_lt_of_cell? w _ hx231_0)).trans hx231_0
            replace hx231_1 := (HB.out.cell (World.block_lt_of_cell? w _ hx231_1)).trans hx231_1
            replace hx231_2 := (HB.out.cell (World.block_lt_of_cell? w _ hx231_2)).trans hx231_2
            replace p231 := eq_true p231
            replace q231 := eq_true q231
            have p232 : 0 ≤ (x6_1 : Int) := of_decide_eq_true (by first | (with_reducible assumption) | assumption)
            have q232 : x6_1 < (l0.length : Int) := of_decide_eq_true (by first | (with_reducible assumption) | assumption)
            obtain ⟨ad232, e232, hx232_0, hx232_1, hx232_2⟩ := at_T25 HR0.out x6_1 p232 q232
            have hw232_2 := hx232_2
            have hw232_1 := hx232_1
            have hw232_0 := hx232_0
            obtain rfl : ad231 = ad232 := (by injection e232)
            replace hx232_0 := (HB.out.cell (World.block_lt_of_cell? w _ hx232_0)).trans hx232_0
            replace hx232_1 := (HB.out.cell (World.block_lt_of_cell? w _ hx232_1)).trans hx232_1
            replace hx232_2 := (HB.out.cell (World.block_lt_of_cell? w _ hx232_2)).trans hx232_2
            replace p232 := eq_true p232
            replace q232 := eq_true q232
            refine start_ (n := 14) (S := fun w' => w'.cell? (ad231.add ((x6_1).toNat * 3)) = some (.int .i64 ((rd_T25 l0 x6_1).f0)) ∧ w'.cell? ⟨(ad231.add ((x6_1).toNat * 3)).block, (ad231.add ((x6_1).toNat * 3)).off + 1, none⟩ = some (.int .i64 ((rd_T25 l0 x6_1).f1)) ∧ w'.cell? ⟨(ad231.add ((x6_1).toNat * 3)).block, (ad231.add ((x6_1).toNat * 3)).off + 2, none⟩ = some (.int .i64 ((rd_T25 l0 x6_1).f2)) ∧ w'.cell? (ad231.add ((x6_1).toNat * 3)) = some (.int .i64 ((rd_T25 l0 x6_1).f0)) ∧ w'.cell? ⟨(ad231.add ((x6_1).toNat * 3)).block, (ad231.add ((x6_1).toNat * 3)).off + 1, none⟩ = some (.int .i64 ((rd_T25 l0 x6_1).f1)) ∧ w'.cell? ⟨(ad231.add ((x6_1).toNat * 3)).block, (ad231.add ((x6_1).toNat * 3)).off + 2, none⟩ = some (.int .i64 ((rd_T25 l0 x6_1).f2))) (ds := []) #[false, false, false, false, false, false, false, false, false, false, false, false, false, false] (by kernel_rfl) rfl rfl ⟨((HB.out.cell (World.block_lt_of_cell? w _ hw231_0)).trans hw231_0), ((HB.out.cell (World.block_lt_of_cell? w _ hw231_1)).trans hw231_1), ((HB.out.cell (World.block_lt_of_cell? w _ hw231_2)).trans hw231_2), ((HB.out.cell (World.block_lt_of_cell? w _ hw232_0)).trans hw232_0), ((HB.out.cell (World.block_lt_of_cell? w _ hw232_1)).trans hw232_1), ((HB.out.cell (World.block_lt_of_cell? w _ hw232_2)).trans hw232_2)⟩ (fun hHeld => ?_); refine with_tabW lighterref08_Victims.tab5 lighterref08_Victims.bits5 (fun HT_ HW_ => ?_)
            generalize wr.drew = w7 at HO_5 HB hx231_0 hx231_1 hx231_2 hx232_0 hx232_1 hx232_2 hHeld ⊢
            refine pure_ (i := 0) (N := some 17) (v := ?_) (a' := ?_) #[true, false, false, false, false, false, false, false, false, false, false, false, false, false] rfl rfl (any_of HT_.out (by kernel_rfl)) (fun _ _ _ h => h) (Or.inl ⟨by rfl, ?_⟩) ?_ ?_
            rotate_left
            · intro w'
              go_simp
              with_reducible rfl
            rotate_left
            · simp only [Act.put, List.setIfInBounds_toArray, List.set_cons_zero, List.set_cons_succ, i64_w, i32_w]
              rfl
            refine pure_ (i := 1) (N := some 18) (v := ?_) (a' := ?_) #[true, true, false, false, false, false, false, false, false, false, false, false, false, false] rfl rfl (any_of HT_.out (by kernel_rfl)) (fun _ _ _ h => h) (Or.inl ⟨by rfl, ?_⟩) ?_ ?_
            rotate_left
            · intro w'
              go_simp
              with_reducible rfl
            rotate_left
            · simp only [Act.put, List.setIfInBounds_toArray, List.set_cons_zero, List.set_cons_succ, i64_w, i32_w]
              rfl
            refine pure_ (i := 2) (N := some 19) (v := ?_) (a' := ?_) #[true, true, true, false, false, false, false, false, false, false, false, false, false, false] rfl rfl (any_of HT_.out (by kernel_rfl)) (fun _ _ _ h => h) (Or.inl ⟨by rfl, ?_⟩) ?_ ?_
            rotate_left
            · intro w'
              go_simp
              with_reducible rfl
            rotate_left
            · simp only [Act.put, List.setIfInBounds_toArray, List.set_cons_zero, List.set_cons_succ, i64_w, i32_w]
              rfl
            refine pure_ (i := 3) (N := some 20) (v := ?_) (a' := ?_) #[true, true, true, true, false, false, false, false, false, false, false, false, false, false] rfl rfl (any_of HT_.out (by kernel_rfl)) (fun _ _ _ h => h) (Or.inl ⟨by rfl, ?_⟩) ?_ ?_
            rotate_left
            · intro w'
              go_simp
              with_reducible rfl
            rotate_left
            · simp only [Act.put, List.setIfInBounds_toArray, List.set_cons_zero, List.set_cons_succ, i64_w, i32_w]
              rfl
            refine pure_ (i := 6) (N := some 23) (v := ?_) (a' := ?_) #[true, true, true, true, false, false, true, false, false, false, false, false, false, false] rfl rfl (any_of HT_.out (by kernel_rfl)) (fun _ _ _ h => h) (Or.inl ⟨by rfl, ?_⟩) ?_ ?_
            rotate_left
            · intro w'
              go_simp
              with_reducible rfl
            rotate_left
            · simp only [Act.put, List.setIfInBounds_toArray, List.set_cons_zero, List.set_cons_succ, i64_w, i32_w]
              rfl
            refine pure_ (i := 7) (N := some 24) (v := ?_) (a' := ?_) #[true, true, true, true, false, false, true, true, false, false, false, false, false, false] rfl rfl (any_of HT_.out (by kernel_rfl)) (fun _ _ _ h => h) (Or.inl ⟨by rfl, ?_⟩) ?_ ?_
            rotate_left
            · intro w'
              go_simp
              with_reducible rfl
            rotate_left
            · simp only [Act.put, List.setIfInBounds_toArray, List.set_cons_zero, List.set_cons_succ, i64_w, i32_w]
              rfl
            refine pure_ (i := 8) (N := some 25) (v := ?_) (a' := ?_) #[true, true, true, true, false, false, true, true, true, false, false, false, false, false] rfl rfl (any_of HT_.out (by kernel_rfl)) (fun _ _ _ h => h) (Or.inl ⟨by rfl, ?_⟩) ?_ ?_
            rotate_left
            · intro w'
              go_simp
              with_reducible rfl
            rotate_left
            · simp only [Act.put, List.setIfInBounds_toArray, List.set_cons_zero, List.set_cons_succ, i64_w, i32_w]
              rfl
            refine pure_ (i := 9) (N := some 26) (v := ?_) (a' := ?_) #[true, true, true, true, false, false, true, true, true, true, false, false, false, false] rfl rfl (any_of HT_.out (by kernel_rfl)) (fun _ _ _ h => h) (Or.inl ⟨by rfl, ?_⟩) ?_ ?_
            rotate_left
            · intro w'
              go_simp
              with_reducible rfl
            rotate_left
            · simp only [Act.put, List.setIfInBounds_toArray, List.set_cons_zero, List.set_cons_succ, i64_w, i32_w]
              rfl
            refine pure_ (i := 10) (N := some 27) (v := ?_) (a' := ?_) #[true, true, true, true, false, false, true, true, true, true, true, false, false, false] rfl rfl (any_of HT_.out (by kernel_rfl)) (fun _ _ _ h => h) (Or.inl ⟨by rfl, ?_⟩) ?_ ?_
            rotate_left
            · intro w'
              go_simp
              with_reducible rfl
            rotate_left
            · simp only [Act.put, List.setIfInBounds_toArray, List.set_cons_zero, List.set_cons_succ, i64_w, i32_w]
              rfl
            refine take_ (i := 4) (N := some 21) (v := ?_) (a' := ?_) #[true, true, true, true, true, false, true, true, true, true, true, false, false, false] rfl rfl (take_ofW HT_.out HW_.out (by kernel_rfl)) (fun _ _ _ h => h) (Or.inl ⟨by rfl, ?_⟩) hHeld ?_ ?_
            rotate_left
            · rintro w' ⟨s0, s1, s2, s3, s4, s5⟩
              go_simp
              with_reducible rfl
            rotate_left
            · simp only [Act.put, List.setIfInBounds_toArray, List.set_cons_zero, List.set_cons_succ, i64_w, i32_w]
              rfl
            refine pure_ (i := 5) (N := some 22) (v := ?_) (a' := ?_) #[true, true, true, true, true, true, true, true, true, true, true, false, false, false] rfl rfl (any_of HT_.out (by kernel_rfl)) (fun _ _ _ h => h) (Or.inl ⟨by rfl, ?_⟩) ?_ ?_
            rotate_left
            · intro w'
              go_simp
              with_reducible rfl
            rotate_left
            · simp only [Act.put, List.setIfInBounds_toArray, List.set_cons_zero, List.set_cons_succ, i64_w, i32_w]
              rfl
            refine take_ (i := 11) (N := some 28) (v := ?_) (a' := ?_) #[true, true, true, true, true, true, true, true, true, true, true, true, false, false] rfl rfl (take_ofW HT_.out HW_.out (by kernel_rfl)) (fun _ _ _ h => h) (Or.inl ⟨by rfl, ?_⟩) hHeld ?_ ?_
            rotate_left
            · rintro w' ⟨s0, s1, s2, s3, s4, s5⟩
              go_simp
              with_reducible rfl
            rotate_left
            · simp only [Act.put, List.setIfInBounds_toArray, List.set_cons_zero, List.set_cons_succ, i64_w, i32_w]
              rfl
            refine pure_ (i := 12) (N := some 29) (v := ?_) (a' := ?_) #[true, true, true, true, true, true, true, true, true, true, true, true, true, false] rfl rfl (any_of HT_.out (by kernel_rfl)) (fun _ _ _ h => h) (Or.inl ⟨by rfl, ?_⟩) ?_ ?_
            rotate_left
            · intro w'
              go_simp
              with_reducible rfl
            rotate_left
            · simp only [Act.put, List.setIfInBounds_toArray, List.set_cons_zero, List.set_cons_succ, i64_w, i32_w]
              rfl
            refine pure_ (i := 13) (N := some 30) (v := ?_) (a' := ?_) #[true, true, true, true, true, true, true, true, true, true, true, true, true, true] rfl rfl (any_of HT_.out (by kernel_rfl)) (fun _ _ _ h => h) (Or.inl ⟨by rfl, ?_⟩) ?_ ?_
            rotate_left
            · intro w'
              go_simp
              with_reducible rfl
            rotate_left
            · simp only [Act.put, List.setIfInBounds_toArray, List.set_cons_zero, List.set_cons_succ, i64_w, i32_w]
              rfl
            refine done_ (done_of HT_.out (by kernel_rfl)) ?_
            try go_wp2
            go_loopg [7, 8] k1 (fun kq v7 v8 w' => ∃ (x7_2 : List (S25)) (x8_2 : Int), v8 = .int .i64 x8_2 ∧ Aside0 (lighterref08_Victims.l1 kq l0 a1 x5_1 x6_1 x7_2 x8_2 = some r) ∧ Aside0 (kq ≤ k1) ∧ Aside0 (Kd.R k25 25 w' w.heap.size (fun k_ => some k_ ≠ (v7 : Value).ownBlock) u5 x5_1) ∧ Aside0 (Kd.R k25 25 w' w.heap.size (fun k_ => some k_ ≠ (u5 : Value).ownBlock) v7 x7_2) ∧ Aside0 (Below w.heap.size w w'))
            case atStart => exact ⟨(([] : List (S25))), (0), (by first | rfl | (simp; done) | (simp [*]; done)), H', ⟨Nat.le_refl _⟩, ⟨by (with_reducible repeat (first | apply Kd.R_alloc | apply Kd.R_drewN | apply Kd.R_drew)); exact Kd.R_mono HO_5.out (fun _ hk => (by simp [Value.ownBlock]))⟩, ⟨by first | exact Kd.R_nil _ _ _ _ _ | exact Kd.N_nil _ _ _ _ _ | exact Kd.V_nil _ _ _ _ _ | exact Kd.Q_nil _ _ _ _ _ | exact Kd.S_nil _ _ _ _ _⟩, ⟨by repeat (first | (with_reducible first | exact HB.out | apply below_alloc | apply pw_below_drewN | apply below_drew1) | exact HB.out)⟩⟩
            case round =>
              clear H'
              try clear p2
              try clear q2
              try clear hx2
              try clear c3
              try clear c3b0
              try clear c4
              try clear c4b0
              try clear c5
              try clear c5b0
              try clear p6
              try clear hx231_0
              try clear hx231_1
              try clear hx231_2
              try clear hx232_0
              try clear hx232_1
              try clear hx232_2
              try clear p2
              try clear p231
              try clear p232
              try clear q231
              try clear q232
              obtain ⟨x7_2, x8_2, rfl, HA, HK2, HO_5, HO_7, HB⟩ := hrel
              cases gk with
              | zero => exact absurd HA.out (by simp [lighterref08_Victims.l1])
              | succ k2 =>
                have H := HA.out
                clear HA
                simp only [lighterref08_Victims.l1] at H
                by_cases c8 : x8_2 < (x5_1.length : Int)
                · rw [if_pos c8] at H
                  have c8b0 : decide (x8_2 < (x5_1.length : Int)) = true := decide_eq_true c8
                  clear c8
                  by_cases c9 : 0 ≤ x8_2
                  · rw [if_pos c9] at H
                    have c9b0 : decide (0 ≤ x8_2) = true := decide_eq_true c9
                    clear c9
                    by_cases c10 : 0 ≤ x6_1
                    · rw [if_pos c10] at H
                      have c10b0 : decide (0 ≤ x6_1) = true := decide_eq_true c10
                      clear c10
                      by_cases c11 : x6_1 < (l0.length : Int)
                      · rw [if_pos c11] at H
                        have c11b0 : decide (x6_1 < (l0.length : Int)) = true := decide_eq_true c11
                        clear c11
                        replace H := Option.bind_eq_some_iff.mp H
                        obtain ⟨t235, A120, H⟩ := H
                        replace H : (if t235 = true then (if x7_2.length < 5864062014805 then (lighterref08_Victims.l1 k2 l0 a1 x5_1 x6_1 (x7_2 ++ [(⟨(rd_T25 x5_1 x8_2).f0, (rd_T25 x5_1 x8_2).f1, (rd_T25 x5_1 x8_2).f2⟩ : S25)]) (wrap64 (x8_2 + 1))) else (none)) else (if x7_2.length < 5864062014805 then ((some (x7_2 ++ [(⟨(rd_T25 l0 x6_1).f0, (rd_T25 l0 x6_1).f1, (rd_T25 l0 x6_1).f2⟩ : S25)] : List (S25))).bind fun y241 => (if x8_2 ≤ (x5_1.length : Int) then ((some (x5_1.drop (x8_2 : Int).toNat : List (S25))).bind fun y244 => (if y241.length + y244.length < 5864062014805 then (lighterref08_Victims.l0 k2 l0 a1 (y241 ++ y244) (wrap64 (x6_1 + 1))) else (none))) else (none))) else (none))) = some r := H
                        have A12 := Aside0.mk A120
                        clear A120
                        by_cases c13 : t235 = true
                        · subst c13
                          have H1 : (if x7_2.length < 5864062014805 then (lighterref08_Victims.l1 k2 l0 a1 x5_1 x6_1 (x7_2 ++ [(⟨(rd_T25 x5_1 x8_2).f0, (rd_T25 x5_1 x8_2).f1, (rd_T25 x5_1 x8_2).f2⟩ : S25)]) (wrap64 (x8_2 + 1))) else (none)) = some r := by rw [if_pos rfl] at H; exact H
                          clear H
                          have H := H1
                          clear H1
                          by_cases c14 : x7_2.length < 5864062014805
                          · rw [if_pos c14] at H
                            have LMc14 := Aside0.mk c14
                            clear c14
                            obtain ⟨y237, hy237⟩ : ∃ y_ : List (S25), y_ = (x7_2 ++ [(⟨(rd_T25 x5_1 x8_2).f0, (rd_T25 x5_1 x8_2).f1, (rd_T25 x5_1 x8_2).f2⟩ : S25)]) := ⟨_, rfl⟩
                            replace H : (lighterref08_Victims.l1 k2 l0 a1 x5_1 x6_1 y237 (wrap64 (x8_2 + 1))) = some r := by first | (rw [hy237]; with_reducible exact H) | (have H2_ := (Option.bind_some _ _).symm.trans H; rw [hy237]; with_reducible exact H2_) | (have H2_ := (Option.bind_some _ _).symm.trans H; with_reducible exact H2_) | with_reducible exact H | (rw [hy237]; exact H) | exact H
                            have Ny237 := Aside0.mk hy237
                            clear hy237
                            have H' := Aside0.mk H
                            clear H
                            try go_wp2
                            have n0_ := Aside0.mk (Kd.R_drew HO_5.out)
                            have n1_ := Aside0.mk (Kd.R_drew HO_7.out)
                            have n2_ := Aside0.mk (below_drew1 HB.out)
                            clear HO_5
                            clear HO_7
                            clear HB
                            have HO_5 := n0_
                            have HO_7 := n1_
                            have HB := n2_
                            clear n0_ n1_ n2_
                            obtain ⟨Ao16, co16, eo16⟩ := Kd.R_slice HO_5.out
                            (first | subst eo16 | (injection eo16 with f1_ f2_ f3_; have f4_ := f1_.symm; have f5_ := f3_.symm; clear f1_ f2_ f3_; subst f4_; subst f5_))
                            have p233 : 0 ≤ (x8_2 : Int) := of_decide_eq_true (by first | (with_reducible assumption) | assumption)
                            have q233 : x8_2 < (x5_1.length : Int) := of_decide_eq_true (by first | (with_reducible assumption) | assumption)
                            obtain ⟨ad233, e233, hx233_0, hx233_1, hx233_2⟩ := at_T25 (Kd.R_reads' HO_5.out).2.2 x8_2 p233 q233
                            cases e233
                            replace p233 := eq_true p233
                            replace q233 := eq_true q233
                            have p234 : 0 ≤ (x6_1 : Int) := of_decide_eq_true (by first | (with_reducible assumption) | assumption)
                            have q234 : x6_1 < (l0.length : Int) := of_decide_eq_true (by first | (with_reducible assumption) | assumption)
                            obtain ⟨ad234, e234, hx234_0, hx234_1, hx234_2⟩ := at_T25 HR0.out x6_1 p234 q234
                            have hw234_2 := hx234_2
                            have hw234_1 := hx234_1
                            have hw234_0 := hx234_0
                            obtain rfl : ad231 = ad234 := (by injection e234)
                            replace hx234_0 := (HB.out.cell (World.block_lt_of_cell? w _ hx234_0)).trans hx234_0
                            replace hx234_1 := (HB.out.cell (World.block_lt_of_cell? w _ hx234_1)).trans hx234_1
                            replace hx234_2 := (HB.out.cell (World.block_lt_of_cell? w _ hx234_2)).trans hx234_2
                            replace p234 := eq_true p234
                            replace q234 := eq_true q234
                            refine start_ (n := 15) (S := fun w' => w'.cell? (ad233.add ((x8_2).toNat * 3)) = some (.int .i64 ((rd_T25 x5_1 x8_2).f0)) ∧ w'.cell? ⟨(ad233.add ((x8_2).toNat * 3)).block, (ad233.add ((x8_2).toNat * 3)).off + 1, none⟩ = some (.int .i64 ((rd_T25 x5_1 x8_2).f1)) ∧ w'.cell? ⟨(ad233.add ((x8_2).toNat * 3)).block, (ad233.add ((x8_2).toNat * 3)).off + 2, none⟩ = some (.int .i64 ((rd_T25 x5_1 x8_2).f2)) ∧ w'.cell? (ad231.add ((x6_1).toNat * 3)) = some (.int .i64 ((rd_T25 l0 x6_1).f0)) ∧ w'.cell? ⟨(ad231.add ((x6_1).toNat * 3)).block, (ad231.add ((x6_1).toNat * 3)).off + 1, none⟩ = some (.int .i64 ((rd_T25 l0 x6_1).f1)) ∧ w'.cell? ⟨(ad231.add ((x6_1).toNat * 3)).block, (ad231.add ((x6_1).toNat * 3)).off + 2, none⟩ = some (.int .i64 ((rd_T25 l0 x6_1).f2))) (ds := []) #[false, false, false, false, false, false, false, false, false, false, false, false, false, false, false] (by kernel_rfl) rfl rfl ⟨hx233_0, hx233_1, hx233_2, ((HB.out.cell (World.block_lt_of_cell? w _ hw234_0)).trans hw234_0), ((HB.out.cell (World.block_lt_of_cell? w _ hw234_1)).trans hw234_1), ((HB.out.cell (World.block_lt_of_cell? w _ hw234_2)).trans hw234_2)⟩ (fun hHeld => ?_); refine with_tabW lighterref08_Victims.tab8 lighterref08_Victims.bits8 (fun HT_ HW_ => ?_)
                            generalize wr.drew = w15 at HO_5 HO_7 HB hx233_0 hx233_1 hx233_2 hx234_0 hx234_1 hx234_2 hHeld ⊢
                            refine pure_ (i := 0) (N := some 31) (v := ?_) (a' := ?_) #[true, false, false, false, false, false, false, false, false, false, false, false, false, false, false] rfl rfl (any_of HT_.out (by kernel_rfl)) (fun _ _ _ h => h) (Or.inl ⟨by rfl, ?_⟩) ?_ ?_
                            rotate_left
                            · intro w'
                              go_simp
                              with_reducible rfl
                            rotate_left
                            · simp only [Act.put, List.setIfInBounds_toArray, List.set_cons_zero, List.set_cons_succ, i64_w, i32_w]
                              rfl
                            refine pure_ (i := 1) (N := some 32) (v := ?_) (a' := ?_) #[true, true, false, false, false, false, false, false, false, false, false, false, false, false, false] rfl rfl (any_of HT_.out (by kernel_rfl)) (fun _ _ _ h => h) (Or.inl ⟨by rfl, ?_⟩) ?_ ?_
                            rotate_left
                            · intro w'
                              go_simp
                              with_reducible rfl
                            rotate_left
                            · simp only [Act.put, List.setIfInBounds_toArray, List.set_cons_zero, List.set_cons_succ, i64_w, i32_w]
                              rfl
                            refine pure_ (i := 2) (N := some 33) (v := ?_) (a' := ?_) #[true, true, true, false, false, false, false, false, false, false, false, false, false, false, false] rfl rfl (any_of HT_.out (by kernel_rfl)) (fun _ _ _ h => h) (Or.inl ⟨by rfl, ?_⟩) ?_ ?_
                            rotate_left
                            · intro w'
                              go_simp
                              with_reducible rfl
                            rotate_left
                            · simp only [Act.put, List.setIfInBounds_toArray, List.set_cons_zero, List.set_cons_succ, i64_w, i32_w]
                              rfl
                            refine pure_ (i := 3) (N := some 34) (v := ?_) (a' := ?_) #[true, true, true, true, false, false, false, false, false, false, false, false, false, false, false] rfl rfl (any_of HT_.out (by kernel_rfl)) (fun _ _ _ h => h) (Or.inl ⟨by rfl, ?_⟩) ?_ ?_
                            rotate_left
                            · intro w'
                              go_simp
                              with_reducible rfl
                            rotate_left
                            · simp only [Act.put, List.setIfInBounds_toArray, List.set_cons_zero, List.set_cons_succ, i64_w, i32_w]
                              rfl
                            refine pure_ (i := 4) (N := some 35) (v := ?_) (a' := ?_) #[true, true, true, true, true, false, false, false, false, false, false, false, false, false, false] rfl rfl (any_of HT_.out (by kernel_rfl)) (fun _ _ _ h => h) (Or.inl ⟨by rfl, ?_⟩) ?_ ?_
                            rotate_left
                            · intro w'
                              go_simp
                              with_reducible rfl
                            rotate_left
                            · simp only [Act.put, List.setIfInBounds_toArray, List.set_cons_zero, List.set_cons_succ, i64_w, i32_w]
                              rfl
                            refine pure_ (i := 5) (N := some 36) (v := ?_) (a' := ?_) #[true, true, true, true, true, true, false, false, false, false, false, false, false, false, false] rfl rfl (any_of HT_.out (by kernel_rfl)) (fun _ _ _ h => h) (Or.inl ⟨by rfl, ?_⟩) ?_ ?_
                            rotate_left
                            · intro w'
                              go_simp
                              with_reducible rfl
                            rotate_left
                            · simp only [Act.put, List.setIfInBounds_toArray, List.set_cons_zero, List.set_cons_succ, i64_w, i32_w]
                              rfl
                            refine pure_ (i := 6) (N := some 37) (v := ?_) (a' := ?_) #[true, true, true, true, true, true, true, false, false, false, false, false, false, false, false] rfl rfl (any_of HT_.out (by kernel_rfl)) (fun _ _ _ h => h) (Or.inl ⟨by rfl, ?_⟩) ?_ ?_
                            rotate_left
                            · intro w'
                              go_simp
                              with_reducible rfl
                            rotate_left
                            · simp only [Act.put, List.setIfInBounds_toArray, List.set_cons_zero, List.set_cons_succ, i64_w, i32_w]
                              rfl
                            refine pure_ (i := 7) (N := some 38) (v := ?_) (a' := ?_) #[true, true, true, true, true, true, true, true, false, false, false, false, false, false, false] rfl rfl (any_of HT_.out (by kernel_rfl)) (fun _ _ _ h => h) (Or.inl ⟨by rfl, ?_⟩) ?_ ?_
                            rotate_left
                            · intro w'
                              go_simp
                              with_reducible rfl
                            rotate_left
                            · simp only [Act.put, List.setIfInBounds_toArray, List.set_cons_zero, List.set_cons_succ, i64_w, i32_w]
                              rfl
                            refine pure_ (i := 9) (N := some 40) (v := ?_) (a' := ?_) #[true, true, true, true, true, true, true, true, false, true, false, false, false, false, false] rfl rfl (any_of HT_.out (by kernel_rfl)) (fun _ _ _ h => h) (Or.inl ⟨by rfl, ?_⟩) ?_ ?_
                            rotate_left
                            · intro w'
                              go_simp
                              with_reducible rfl
                            rotate_left
                            · simp only [Act.put, List.setIfInBounds_toArray, List.set_cons_zero, List.set_cons_succ, i64_w, i32_w]
                              rfl
                            refine pure_ (i := 10) (N := some 41) (v := ?_) (a' := ?_) #[true, true, true, true, true, true, true, true, false, true, true, false, false, false, false] rfl rfl (any_of HT_.out (by kernel_rfl)) (fun _ _ _ h => h) (Or.inl ⟨by rfl, ?_⟩) ?_ ?_
                            rotate_left
                            · intro w'
                              go_simp
                              with_reducible rfl
                            rotate_left
                            · simp only [Act.put, List.setIfInBounds_toArray, List.set_cons_zero, List.set_cons_succ, i64_w, i32_w]
                              rfl
                            refine pure_ (i := 11) (N := some 42) (v := ?_) (a' := ?_) #[true, true, true, true, true, true, true, true, false, true, true, true, false, false, false] rfl rfl (any_of HT_.out (by kernel_rfl)) (fun _ _ _ h => h) (Or.inl ⟨by rfl, ?_⟩) ?_ ?_
                            rotate_left
                            · intro w'
                              go_simp
                              with_reducible rfl
                            rotate_left
                            · simp only [Act.put, List.setIfInBounds_toArray, List.set_cons_zero, List.set_cons_succ, i64_w, i32_w]
                              rfl
                            refine take_ (i := 8) (N := some 39) (v := ?_) (a' := ?_) #[true, true, true, true, true, true, true, true, true, true, true, true, false, false, false] rfl rfl (take_ofW HT_.out HW_.out (by kernel_rfl)) (fun _ _ _ h => h) (Or.inl ⟨by rfl, ?_⟩) hHeld ?_ ?_
                            rotate_left
                            · rintro w' ⟨s0, s1, s2, s3, s4, s5⟩
                              go_simp
                              with_reducible rfl
                            rotate_left
                            · simp only [Act.put, List.setIfInBounds_toArray, List.set_cons_zero, List.set_cons_succ, i64_w, i32_w]
                              rfl
                            refine take_ (i := 12) (N := some 43) (v := ?_) (a' := ?_) #[true, true, true, true, true, true, true, true, true, true, true, true, true, false, false] rfl rfl (take_ofW HT_.out HW_.out (by kernel_rfl)) (fun _ _ _ h => h) (Or.inl ⟨by rfl, ?_⟩) hHeld ?_ ?_
                            rotate_left
                            · rintro w' ⟨s0, s1, s2, s3, s4, s5⟩
                              go_simp
                              with_reducible rfl
                            rotate_left
                            · simp only [Act.put, List.setIfInBounds_toArray, List.set_cons_zero, List.set_cons_succ, i64_w, i32_w]
                              rfl
                            refine one_ (i := 13) (N := some 44) #[true, true, true, true, true, true, true, true, true, true, true, true, true, true, false] rfl rfl (one_of HT_.out (by kernel_rfl)) (by decide) (fun K hK => ?_)
                            refine goes_ Try.func58 (by kernel_rfl) rfl #[.agg #[.int .i64 ((rd_T25 x5_1 x8_2).f0), .int .i64 ((rd_T25 x5_1 x8_2).f1), .int .i64 ((rd_T25 x5_1 x8_2).f2)], .agg #[.int .i64 ((rd_T25 l0 x6_1).f0), .int .i64 ((rd_T25 l0 x6_1).f1), .int .i64 ((rd_T25 l0 x6_1).f2)]] (by rfl) rfl rfl (by (try simp only [List.map_toArray, List.map_cons, List.map_nil]); first | done | rfl | (simp only [List.length_drop, List.length_take]; rfl)) ?_
                            with_reducible refine (lighterref08_less.calls ((rd_T25 x5_1 x8_2).f0) ((rd_T25 x5_1 x8_2).f1) ((rd_T25 x5_1 x8_2).f2) ((rd_T25 l0 x6_1).f0) ((rd_T25 l0 x6_1).f1) ((rd_T25 l0 x6_1).f2) true _ A12.out).mono ?_
                            rintro e w17 ⟨rfl, hb⟩
                            have HS0_ := (hb.cell (World.block_lt_of_cell? _ _ (hHeld.1))).trans (hHeld.1)
                            have HS1_ := (hb.cell (World.block_lt_of_cell? _ _ (hHeld.2.1))).trans (hHeld.2.1)
                            have HS2_ := (hb.cell (World.block_lt_of_cell? _ _ (hHeld.2.2.1))).trans (hHeld.2.2.1)
                            refine ⟨_, rfl, ?_⟩
                            have n0_ := Aside0.mk (Kd.R_below (by (with_reducible repeat (first | apply Kd.R_alloc | apply Kd.R_drewN | apply Kd.R_drew)); exact HO_5.out) hb)
                            have n1_ := Aside0.mk (Kd.R_below (by (with_reducible repeat (first | apply Kd.R_alloc | apply Kd.R_drewN | apply Kd.R_drew)); exact HO_7.out) hb)
                            have n2_ := Aside0.mk (below_step (by repeat (first | (with_reducible first | exact HB.out | apply below_alloc | apply pw_below_drewN | apply below_drew1) | exact HB.out)) hb)
                            clear HO_5
                            clear HO_7
                            clear HB
                            have HO_5 := n0_
                            have HO_7 := n1_
                            have HB := n2_
                            clear n0_ n1_ n2_
                            (try clear hb)
                            (try clear hb2)
                            (try clear hk)
                            (try clear hi)
                            refine hK.out _ _ ⟨HS0_, HS1_, HS2_, ((HB.out.cell (World.block_lt_of_cell? w _ hw234_0)).trans hw234_0), ((HB.out.cell (World.block_lt_of_cell? w _ hw234_1)).trans hw234_1), ((HB.out.cell (World.block_lt_of_cell? w _ hw234_2)).trans hw234_2)⟩ (fun hHeld => ?_)
                            clear hK K
                            refine norm_ (a' := ?_) ?_ ?_
                            rotate_left
                            · show Act.put _ (some 44) _ = _
                              simp only [Act.put, List.setIfInBounds_toArray, List.set_cons_zero, List.set_cons_succ, i64_w, i32_w]
                              rfl
                            refine pure_ (i := 14) (N := some 45) (v := ?_) (a' := ?_) #[true, true, true, true, true, true, true, true, true, true, true, true, true, true, true] rfl rfl (any_of HT_.out (by kernel_rfl)) (fun _ _ _ h => h) (Or.inl ⟨by rfl, ?_⟩) ?_ ?_
                            rotate_left
                            · intro w'
                              go_simp
                              with_reducible rfl
                            rotate_left
                            · simp only [Act.put, List.setIfInBounds_toArray, List.set_cons_zero, List.set_cons_succ, i64_w, i32_w]
                              rfl
                            refine done_ (done_of HT_.out (by kernel_rfl)) ?_
                            have p236 : 0 ≤ (x8_2 : Int) := of_decide_eq_true (by first | (with_reducible assumption) | assumption)
                            have q236 : x8_2 < (x5_1.length : Int) := of_decide_eq_true (by first | (with_reducible assumption) | assumption)
                            obtain ⟨ad236, e236, hx236_0, hx236_1, hx236_2⟩ := at_T25 (Kd.R_reads' HO_5.out).2.2 x8_2 p236 q236
                            obtain rfl : ad233 = ad236 := (by injection e236)
                            replace p236 := eq_true p236
                            replace q236 := eq_true q236
                            try go_wp2_with (first | ((with_reducible refine gate_builtin (b := .append) (xs := #[.tmp 46, .tmp 51]) rfl ?_); at_builtin; refine Kd.R_append k25 (w0 := w) w.heap.size rfl (.tmp 46) (.tmp 51) 26 25 (.agg #[(.int .i64 0), (.int .i64 0), (.int .i64 0)]) 24 rfl Try.underlying26 info25 rfl (by decide) (by omega) u7 x7_2 (⟨(rd_T25 x5_1 x8_2).f0, (rd_T25 x5_1 x8_2).f1, (rd_T25 x5_1 x8_2).f2⟩ : S25) [.int .i64 ((rd_T25 x5_1 x8_2).f0), .int .i64 ((rd_T25 x5_1 x8_2).f1), .int .i64 ((rd_T25 x5_1 x8_2).f2)] (fun k_ => some k_ ≠ (.slice (some ad233) x5_1.length co16 : Value).ownBlock) (fun _ => False) rfl rfl ?aP (fun _ hk => hk.elim) ?aF ?aO ?aB ?aS ?aL ?_; (case aP => exact k25_mkM _ _ _ (⟨(rd_T25 x5_1 x8_2).f0, (rd_T25 x5_1 x8_2).f1, (rd_T25 x5_1 x8_2).f2⟩ : S25)); (case aB => exact (by repeat (first | (with_reducible first | exact HB.out | apply below_alloc | apply pw_below_drewN | apply below_drew1) | exact HB.out))); (case aF => exact (fun k_ hk => Kd.fresh' (Kd.R_lt (by (with_reducible repeat (first | apply Kd.R_alloc | apply Kd.R_drewN | apply Kd.R_drew)); exact HO_5.out)) k_ hk)); (case aO => exact (by (with_reducible repeat (first | apply Kd.R_alloc | apply Kd.R_drewN | apply Kd.R_drew)); exact HO_7.out)); (case aS => exact (below_size (by repeat (first | (with_reducible first | exact HB.out | apply below_alloc | apply pw_below_drewN | apply below_drew1) | exact HB.out)))); (case aL => have := LMc14.out; omega); intro v238 w18 ho hb hg hat; rw [← Ny237.out] at ho; have n0_ := Aside0.mk (Kd.R_after (ok := (fun _ => True)) (by (with_reducible repeat (first | apply Kd.R_alloc | apply Kd.R_drewN | apply Kd.R_drew)); exact Kd.R_mono HO_5.out (fun _ hk => ⟨trivial, hk⟩)) hg hat); have n1_ := Aside0.mk (hb); have n2_ := Aside0.mk (ho); clear HO_5; clear HB; clear HO_7; have HO_5 := n0_; have HB := n1_; have HO239 := n2_; clear n0_ n1_ n2_; clear ho hb hg hat))
                            go_roundg k2
                            case measure => have := HK1.out; have := HK2.out; omega
                            case rel => exact ⟨(y237), (wrap64 (x8_2 + 1)), (by first | rfl | (simp; done) | (simp [*]; done)), H', ⟨by have := HK1.out; have := HK2.out; omega⟩, ⟨by (with_reducible repeat (first | apply Kd.R_alloc | apply Kd.R_drewN | apply Kd.R_drew)); exact Kd.R_mono HO_5.out (fun _ hk => hk.2)⟩, ⟨by (with_reducible repeat (first | apply Kd.R_alloc | apply Kd.R_drewN | apply Kd.R_drew)); exact HO239.out⟩, ⟨by repeat (first | (with_reducible first | exact HB.out | apply below_alloc | apply pw_below_drewN | apply below_drew1) | exact HB.out)⟩⟩
                          · rw [if_neg c14] at H
                            exact absurd H (by simp)
                        · replace c13 := Bool.eq_false_iff.mpr c13
                          subst c13
                          have H1 : (if x7_2.length < 5864062014805 then ((some (x7_2 ++ [(⟨(rd_T25 l0 x6_1).f0, (rd_T25 l0 x6_1).f1, (rd_T25 l0 x6_1).f2⟩ : S25)] : List (S25))).bind fun y241 => (if x8_2 ≤ (x5_1.length : Int) then ((some (x5_1.drop (x8_2 : Int).toNat : List (S25))).bind fun y244 => (if y241.length + y244.length < 5864062014805 then (lighterref08_Victims.l0 k2 l0 a1 (y241 ++ y244) (wrap64 (x6_1 + 1))) else (none))) else (none))) else (none)) = some r := by rw [if_neg (show ¬ (false = true) by decide)] at H; exact H
                          clear H
                          have H := H1
                          clear H1
                          by_cases c19 : x7_2.length < 5864062014805
                          · rw [if_pos c19] at H
                            have LMc19 := Aside0.mk c19
                            clear c19
                            obtain ⟨y241, hy241⟩ : ∃ y_ : List (S25), y_ = (x7_2 ++ [(⟨(rd_T25 l0 x6_1).f0, (rd_T25 l0 x6_1).f1, (rd_T25 l0 x6_1).f2⟩ : S25)]) := ⟨_, rfl⟩
                            replace H : (if x8_2 ≤ (x5_1.length : Int) then ((some (x5_1.drop (x8_2 : Int).toNat : List (S25))).bind fun y244 => (if y241.length + y244.length < 5864062014805 then (lighterref08_Victims.l0 k2 l0 a1 (y241 ++ y244) (wrap64 (x6_1 + 1))) else (none))) else (none)) = some r := by first | (rw [hy241]; with_reducible exact H) | (have H2_ := (Option.bind_some _ _).symm.trans H; rw [hy241]; with_reducible exact H2_) | (have H2_ := (Option.bind_some _ _).symm.trans H; with_reducible exact H2_) | with_reducible exact H | (rw [hy241]; exact H) | exact H
                            have Ny241 := Aside0.mk hy241
                            clear hy241
                            have c20b0 := eq_true (of_decide_eq_true (by first | (with_reducible assumption) | assumption) : 0 ≤ x8_2)
                            by_cases c21 : x8_2 ≤ (x5_1.length : Int)
                            · rw [if_pos c21] at H
                              have c21b0 := eq_true c21
                              have c21b1 : decide (x8_2 ≤ (x5_1.length : Int)) = true := decide_eq_true c21
                              clear c21
                              obtain ⟨y244, hy244⟩ : ∃ y_ : List (S25), y_ = (x5_1.drop (x8_2 : Int).toNat) := ⟨_, rfl⟩
                              replace H : (if y241.length + y244.length < 5864062014805 then (lighterref08_Victims.l0 k2 l0 a1 (y241 ++ y244) (wrap64 (x6_1 + 1))) else (none)) = some r := by first | (rw [hy244]; with_reducible exact H) | (have H2_ := (Option.bind_some _ _).symm.trans H; rw [hy244]; with_reducible exact H2_) | (have H2_ := (Option.bind_some _ _).symm.trans H; with_reducible exact H2_) | with_reducible exact H | (rw [hy244]; exact H) | exact H
                              have Ny244 := Aside0.mk hy244
                              clear hy244
                              by_cases c22 : y241.length + y244.length < 5864062014805
                              · rw [if_pos c22] at H
                                have LMc22 := Aside0.mk c22
                                clear c22
                                obtain ⟨y248, hy248⟩ : ∃ y_ : List (S25), y_ = (y241 ++ y244) := ⟨_, rfl⟩
                                replace H : (lighterref08_Victims.l0 k2 l0 a1 y248 (wrap64 (x6_1 + 1))) = some r := by first | (rw [hy248]; with_reducible exact H) | (have H2_ := (Option.bind_some _ _).symm.trans H; rw [hy248]; with_reducible exact H2_) | (have H2_ := (Option.bind_some _ _).symm.trans H; with_reducible exact H2_) | with_reducible exact H | (rw [hy248]; exact H) | exact H
                                have Ny248 := Aside0.mk hy248
                                clear hy248
                                have H' := Aside0.mk H
                                clear H
                                try go_wp2
                                have n0_ := Aside0.mk (Kd.R_drew HO_5.out)
                                have n1_ := Aside0.mk (Kd.R_drew HO_7.out)
                                have n2_ := Aside0.mk (below_drew1 HB.out)
                                clear HO_5
                                clear HO_7
                                clear HB
                                have HO_5 := n0_
                                have HO_7 := n1_
                                have HB := n2_
                                clear n0_ n1_ n2_
                                obtain ⟨Ao24, co24, eo24⟩ := Kd.R_slice HO_5.out
                                (first | subst eo24 | (injection eo24 with f1_ f2_ f3_; have f4_ := f1_.symm; have f5_ := f3_.symm; clear f1_ f2_ f3_; subst f4_; subst f5_))
                                have p233 : 0 ≤ (x8_2 : Int) := of_decide_eq_true (by first | (with_reducible assumption) | assumption)
                                have q233 : x8_2 < (x5_1.length : Int) := of_decide_eq_true (by first | (with_reducible assumption) | assumption)
                                obtain ⟨ad233, e233, hx233_0, hx233_1, hx233_2⟩ := at_T25 (Kd.R_reads' HO_5.out).2.2 x8_2 p233 q233
                                cases e233
                                replace p233 := eq_true p233
                                replace q233 := eq_true q233
                                have p234 : 0 ≤ (x6_1 : Int) := of_decide_eq_true (by first | (with_reducible assumption) | assumption)
                                have q234 : x6_1 < (l0.length : Int) := of_decide_eq_true (by first | (with_reducible assumption) | assumption)
                                obtain ⟨ad234, e234, hx234_0, hx234_1, hx234_2⟩ := at_T25 HR0.out x6_1 p234 q234
                                have hw234_2 := hx234_2
                                have hw234_1 := hx234_1
                                have hw234_0 := hx234_0
                                obtain rfl : ad231 = ad234 := (by injection e234)
                                replace hx234_0 := (HB.out.cell (World.block_lt_of_cell? w _ hx234_0)).trans hx234_0
                                replace hx234_1 := (HB.out.cell (World.block_lt_of_cell? w _ hx234_1)).trans hx234_1
                                replace hx234_2 := (HB.out.cell (World.block_lt_of_cell? w _ hx234_2)).trans hx234_2
                                replace p234 := eq_true p234
                                replace q234 := eq_true q234
                                refine start_ (n := 15) (S := fun w' => w'.cell? (ad233.add ((x8_2).toNat * 3)) = some (.int .i64 ((rd_T25 x5_1 x8_2).f0)) ∧ w'.cell? ⟨(ad233.add ((x8_2).toNat * 3)).block, (ad233.add ((x8_2).toNat * 3)).off + 1, none⟩ = some (.int .i64 ((rd_T25 x5_1 x8_2).f1)) ∧ w'.cell? ⟨(ad233.add ((x8_2).toNat * 3)).block, (ad233.add ((x8_2).toNat * 3)).off + 2, none⟩ = some (.int .i64 ((rd_T25 x5_1 x8_2).f2)) ∧ w'.cell? (ad231.add ((x6_1).toNat * 3)) = some (.int .i64 ((rd_T25 l0 x6_1).f0)) ∧ w'.cell? ⟨(ad231.add ((x6_1).toNat * 3)).block, (ad231.add ((x6_1).toNat * 3)).off + 1, none⟩ = some (.int .i64 ((rd_T25 l0 x6_1).f1)) ∧ w'.cell? ⟨(ad231.add ((x6_1).toNat * 3)).block, (ad231.add ((x6_1).toNat * 3)).off + 2, none⟩ = some (.int .i64 ((rd_T25 l0 x6_1).f2))) (ds := []) #[false, false, false, false, false, false, false, false, false, false, false, false, false, false, false] (by kernel_rfl) rfl rfl ⟨hx233_0, hx233_1, hx233_2, ((HB.out.cell (World.block_lt_of_cell? w _ hw234_0)).trans hw234_0), ((HB.out.cell (World.block_lt_of_cell? w _ hw234_1)).trans hw234_1), ((HB.out.cell (World.block_lt_of_cell? w _ hw234_2)).trans hw234_2)⟩ (fun hHeld => ?_); refine with_tabW lighterref08_Victims.tab8 lighterref08_Victims.bits8 (fun HT_ HW_ => ?_)
                                generalize wr.drew = w23 at HO_5 HO_7 HB hx233_0 hx233_1 hx233_2 hx234_0 hx234_1 hx234_2 hHeld ⊢
                                refine pure_ (i := 0) (N := some 31) (v := ?_) (a' := ?_) #[true, false, false, false, false, false, false, false, false, false, false, false, false, false, false] rfl rfl (any_of HT_.out (by kernel_rfl)) (fun _ _ _ h => h) (Or.inl ⟨by rfl, ?_⟩) ?_ ?_
                                rotate_left
                                · intro w'
                                  go_simp
                                  with_reducible rfl
                                rotate_left
                                · simp only [Act.put, List.setIfInBounds_toArray, List.set_cons_zero, List.set_cons_succ, i64_w, i32_w]
                                  rfl
                                refine pure_ (i := 1) (N := some 32) (v := ?_) (a' := ?_) #[true, true, false, false, false, false, false, false, false, false, false, false, false, false, false] rfl rfl (any_of HT_.out (by kernel_rfl)) (fun _ _ _ h => h) (Or.inl ⟨by rfl, ?_⟩) ?_ ?_
                                rotate_left
                                · intro w'
                                  go_simp
                                  with_reducible rfl
                                rotate_left
                                · simp only [Act.put, List.setIfInBounds_toArray, List.set_cons_zero, List.set_cons_succ, i64_w, i32_w]
                                  rfl
                                refine pure_ (i := 2) (N := some 33) (v := ?_) (a' := ?_) #[true, true, true, false, false, false, false, false, false, false, false, false, false, false, false] rfl rfl (any_of HT_.out (by kernel_rfl)) (fun _ _ _ h => h) (Or.inl ⟨by rfl, ?_⟩) ?_ ?_
                                rotate_left
                                · intro w'
                                  go_simp
                                  with_reducible rfl
                                rotate_left
                                · simp only [Act.put, List.setIfInBounds_toArray, List.set_cons_zero, List.set_cons_succ, i64_w, i32_w]
                                  rfl
                                refine pure_ (i := 3) (N := some 34) (v := ?_) (a' := ?_) #[true, true, true, true, false, false, false, false, false, false, false, false, false, false, false] rfl rfl (any_of HT_.out (by kernel_rfl)) (fun _ _ _ h => h) (Or.inl ⟨by rfl, ?_⟩) ?_ ?_
                                rotate_left
                                · intro w'
                                  go_simp
                                  with_reducible rfl
                                rotate_left
                                · simp only [Act.put, List.setIfInBounds_toArray, List.set_cons_zero, List.set_cons_succ, i64_w, i32_w]
                                  rfl
                                refine pure_ (i := 4) (N := some 35) (v := ?_) (a' := ?_) #[true, true, true, true, true, false, false, false, false, false, false, false, false, false, false] rfl rfl (any_of HT_.out (by kernel_rfl)) (fun _ _ _ h => h) (Or.inl ⟨by rfl, ?_⟩) ?_ ?_
                                rotate_left
                                · intro w'
                                  go_simp
                                  with_reducible rfl
                                rotate_left
                                · simp only [Act.put, List.setIfInBounds_toArray, List.set_cons_zero, List.set_cons_succ, i64_w, i32_w]
                                  rfl
                                refine pure_ (i := 5) (N := some 36) (v := ?_) (a' := ?_) #[true, true, true, true, true, true, false, false, false, false, false, false, false, false, false] rfl rfl (any_of HT_.out (by kernel_rfl)) (fun _ _ _ h => h) (Or.inl ⟨by rfl, ?_⟩) ?_ ?_
                                rotate_left
                                · intro w'
                                  go_simp
                                  with_reducible rfl
                                rotate_left
                                · simp only [Act.put, List.setIfInBounds_toArray, List.set_cons_zero, List.set_cons_succ, i64_w, i32_w]
                                  rfl
                                refine pure_ (i := 6) (N := some 37) (v := ?_) (a' := ?_) #[true, true, true, true, true, true, true, false, false, false, false, false, false, false, false] rfl rfl (any_of HT_.out (by kernel_rfl)) (fun _ _ _ h => h) (Or.inl ⟨by rfl, ?_⟩) ?_ ?_
                                rotate_left
                                · intro w'
                                  go_simp
                                  with_reducible rfl
                                rotate_left
                                · simp only [Act.put, List.setIfInBounds_toArray, List.set_cons_zero, List.set_cons_succ, i64_w, i32_w]
                                  rfl
                                refine pure_ (i := 7) (N := some 38) (v := ?_) (a' := ?_) #[true, true, true, true, true, true, true, true, false, false, false, false, false, false, false] rfl rfl (any_of HT_.out (by kernel_rfl)) (fun _ _ _ h => h) (Or.inl ⟨by rfl, ?_⟩) ?_ ?_
                                rotate_left
                                · intro w'
                                  go_simp
                                  with_reducible rfl
                                rotate_left
                                · simp only [Act.put, List.setIfInBounds_toArray, List.set_cons_zero, List.set_cons_succ, i64_w, i32_w]
                                  rfl
                                refine pure_ (i := 9) (N := some 40) (v := ?_) (a' := ?_) #[true, true, true, true, true, true, true, true, false, true, false, false, false, false, false] rfl rfl (any_of HT_.out (by kernel_rfl)) (fun _ _ _ h => h) (Or.inl ⟨by rfl, ?_⟩) ?_ ?_
                                rotate_left
                                · intro w'
                                  go_simp
                                  with_reducible rfl
                                rotate_left
                                · simp only [Act.put, List.setIfInBounds_toArray, List.set_cons_zero, List.set_cons_succ, i64_w, i32_w]
                                  rfl
                                refine pure_ (i := 10) (N := some 41) (v := ?_) (a' := ?_) #[true, true, true, true, true, true, true, true, false, true, true, false, false, false, false] rfl rfl (any_of HT_.out (by kernel_rfl)) (fun _ _ _ h => h) (Or.inl ⟨by rfl, ?_⟩) ?_ ?_
                                rotate_left
                                · intro w'
                                  go_simp
                                  with_reducible rfl
                                rotate_left
                                · simp only [Act.put, List.setIfInBounds_toArray, List.set_cons_zero, List.set_cons_succ, i64_w, i32_w]
                                  rfl
                                refine pure_ (i := 11) (N := some 42) (v := ?_) (a' := ?_) #[true, true, true, true, true, true, true, true, false, true, true, true, false, false, false] rfl rfl (any_of HT_.out (by kernel_rfl)) (fun _ _ _ h => h) (Or.inl ⟨by rfl, ?_⟩) ?_ ?_
                                rotate_left
                                · intro w'
                                  go_simp
                                  with_reducible rfl
                                rotate_left
                                · simp only [Act.put, List.setIfInBounds_toArray, List.set_cons_zero, List.set_cons_succ, i64_w, i32_w]
                                  rfl
                                refine take_ (i := 8) (N := some 39) (v := ?_) (a' := ?_) #[true, true, true, true, true, true, true, true, true, true, true, true, false, false, false] rfl rfl (take_ofW HT_.out HW_.out (by kernel_rfl)) (fun _ _ _ h => h) (Or.inl ⟨by rfl, ?_⟩) hHeld ?_ ?_
                                rotate_left
                                · rintro w' ⟨s0, s1, s2, s3, s4, s5⟩
                                  go_simp
                                  with_reducible rfl
                                rotate_left
                                · simp only [Act.put, List.setIfInBounds_toArray, List.set_cons_zero, List.set_cons_succ, i64_w, i32_w]
                                  rfl
                                refine take_ (i := 12) (N := some 43) (v := ?_) (a' := ?_) #[true, true, true, true, true, true, true, true, true, true, true, true, true, false, false] rfl rfl (take_ofW HT_.out HW_.out (by kernel_rfl)) (fun _ _ _ h => h) (Or.inl ⟨by rfl, ?_⟩) hHeld ?_ ?_
                                rotate_left
                                · rintro w' ⟨s0, s1, s2, s3, s4, s5⟩
                                  go_simp
                                  with_reducible rfl
                                rotate_left
                                · simp only [Act.put, List.setIfInBounds_toArray, List.set_cons_zero, List.set_cons_succ, i64_w, i32_w]
                                  rfl
                                refine one_ (i := 13) (N := some 44) #[true, true, true, true, true, true, true, true, true, true, true, true, true, true, false] rfl rfl (one_of HT_.out (by kernel_rfl)) (by decide) (fun K hK => ?_)
                                refine goes_ Try.func58 (by kernel_rfl) rfl #[.agg #[.int .i64 ((rd_T25 x5_1 x8_2).f0), .int .i64 ((rd_T25 x5_1 x8_2).f1), .int .i64 ((rd_T25 x5_1 x8_2).f2)], .agg #[.int .i64 ((rd_T25 l0 x6_1).f0), .int .i64 ((rd_T25 l0 x6_1).f1), .int .i64 ((rd_T25 l0 x6_1).f2)]] (by rfl) rfl rfl (by (try simp only [List.map_toArray, List.map_cons, List.map_nil]); first | done | rfl | (simp only [List.length_drop, List.length_take]; rfl)) ?_
                                with_reducible refine (lighterref08_less.calls ((rd_T25 x5_1 x8_2).f0) ((rd_T25 x5_1 x8_2).f1) ((rd_T25 x5_1 x8_2).f2) ((rd_T25 l0 x6_1).f0) ((rd_T25 l0 x6_1).f1) ((rd_T25 l0 x6_1).f2) false _ A12.out).mono ?_
                                rintro e w25 ⟨rfl, hb⟩
                                have HS0_ := (hb.cell (World.block_lt_of_cell? _ _ (hHeld.1))).trans (hHeld.1)
                                have HS1_ := (hb.cell (World.block_lt_of_cell? _ _ (hHeld.2.1))).trans (hHeld.2.1)
                                have HS2_ := (hb.cell (World.block_lt_of_cell? _ _ (hHeld.2.2.1))).trans (hHeld.2.2.1)
                                refine ⟨_, rfl, ?_⟩
                                have n0_ := Aside0.mk (Kd.R_below (by (with_reducible repeat (first | apply Kd.R_alloc | apply Kd.R_drewN | apply Kd.R_drew)); exact HO_5.out) hb)
                                have n1_ := Aside0.mk (Kd.R_below (by (with_reducible repeat (first | apply Kd.R_alloc | apply Kd.R_drewN | apply Kd.R_drew)); exact HO_7.out) hb)
                                have n2_ := Aside0.mk (below_step (by repeat (first | (with_reducible first | exact HB.out | apply below_alloc | apply pw_below_drewN | apply below_drew1) | exact HB.out)) hb)
                                clear HO_5
                                clear HO_7
                                clear HB
                                have HO_5 := n0_
                                have HO_7 := n1_
                                have HB := n2_
                                clear n0_ n1_ n2_
                                (try clear hb)
                                (try clear hb2)
                                (try clear hk)
                                (try clear hi)
                                refine hK.out _ _ ⟨HS0_, HS1_, HS2_, ((HB.out.cell (World.block_lt_of_cell? w _ hw234_0)).trans hw234_0), ((HB.out.cell (World.block_lt_of_cell? w _ hw234_1)).trans hw234_1), ((HB.out.cell (World.block_lt_of_cell? w _ hw234_2)).trans hw234_2)⟩ (fun hHeld => ?_)
                                clear hK K
                                refine norm_ (a' := ?_) ?_ ?_
                                rotate_left
                                · show Act.put _ (some 44) _ = _
                                  simp only [Act.put, List.setIfInBounds_toArray, List.set_cons_zero, List.set_cons_succ, i64_w, i32_w]
                                  rfl
                                refine pure_ (i := 14) (N := some 45) (v := ?_) (a' := ?_) #[true, true, true, true, true, true, true, true, true, true, true, true, true, true, true] rfl rfl (any_of HT_.out (by kernel_rfl)) (fun _ _ _ h => h) (Or.inl ⟨by rfl, ?_⟩) ?_ ?_
                                rotate_left
                                · intro w'
                                  go_simp
                                  with_reducible rfl
                                rotate_left
                                · simp only [Act.put, List.setIfInBounds_toArray, List.set_cons_zero, List.set_cons_succ, i64_w, i32_w]
                                  rfl
                                refine done_ (done_of HT_.out (by kernel_rfl)) ?_
                                have p240 : 0 ≤ (x6_1 : Int) := of_decide_eq_true (by first | (with_reducible assumption) | assumption)
                                have q240 : x6_1 < (l0.length : Int) := of_decide_eq_true (by first | (with_reducible assumption) | assumption)
                                obtain ⟨ad240, e240, hx240_0, hx240_1, hx240_2⟩ := at_T25 HR0.out x6_1 p240 q240
                                obtain rfl : ad231 = ad240 := (by injection e240)
                                replace hx240_0 := (HB.out.cell (World.block_lt_of_cell? w _ hx240_0)).trans hx240_0
                                replace hx240_1 := (HB.out.cell (World.block_lt_of_cell? w _ hx240_1)).trans hx240_1
                                replace hx240_2 := (HB.out.cell (World.block_lt_of_cell? w _ hx240_2)).trans hx240_2
                                replace p240 := eq_true p240
                                replace q240 := eq_true q240
                                try go_wp2_with (first | ((with_reducible refine gate_builtin (b := .append) (xs := #[.tmp 55, .tmp 60]) rfl ?_); at_builtin; refine Kd.R_append k25 (w0 := w) w.heap.size rfl (.tmp 55) (.tmp 60) 26 25 (.agg #[(.int .i64 0), (.int .i64 0), (.int .i64 0)]) 24 rfl Try.underlying26 info25 rfl (by decide) (by omega) u7 x7_2 (⟨(rd_T25 l0 x6_1).f0, (rd_T25 l0 x6_1).f1, (rd_T25 l0 x6_1).f2⟩ : S25) [.int .i64 ((rd_T25 l0 x6_1).f0), .int .i64 ((rd_T25 l0 x6_1).f1), .int .i64 ((rd_T25 l0 x6_1).f2)] (fun k_ => some k_ ≠ (.slice (some ad233) x5_1.length co24 : Value).ownBlock) (fun _ => False) rfl rfl ?aP (fun _ hk => hk.elim) ?aF ?aO ?aB ?aS ?aL ?_; (case aP => exact k25_mkM _ _ _ (⟨(rd_T25 l0 x6_1).f0, (rd_T25 l0 x6_1).f1, (rd_T25 l0 x6_1).f2⟩ : S25)); (case aB => exact (by repeat (first | (with_reducible first | exact HB.out | apply below_alloc | apply pw_below_drewN | apply below_drew1) | exact HB.out))); (case aF => exact (fun k_ hk => Kd.fresh' (Kd.R_lt (by (with_reducible repeat (first | apply Kd.R_alloc | apply Kd.R_drewN | apply Kd.R_drew)); exact HO_5.out)) k_ hk)); (case aO => exact (by (with_reducible repeat (first | apply Kd.R_alloc | apply Kd.R_drewN | apply Kd.R_drew)); exact HO_7.out)); (case aS => exact (below_size (by repeat (first | (with_reducible first | exact HB.out | apply below_alloc | apply pw_below_drewN | apply below_drew1) | exact HB.out)))); (case aL => have := LMc19.out; omega); intro v242 w26 ho hb hg hat; rw [← Ny241.out] at ho; have n0_ := Aside0.mk (Kd.R_after (ok := (fun _ => True)) (by (with_reducible repeat (first | apply Kd.R_alloc | apply Kd.R_drewN | apply Kd.R_drew)); exact Kd.R_mono HO_5.out (fun _ hk => ⟨trivial, hk⟩)) hg hat); have n1_ := Aside0.mk (hb); have n2_ := Aside0.mk (ho); clear HO_5; clear HB; clear HO_7; have HO_5 := n0_; have HB := n1_; have HO243 := n2_; clear n0_ n1_ n2_; clear ho hb hg hat; have q27 : (x8_2 : Int) ≤ ((x5_1.length : Int) : Int) := of_decide_eq_true (by first | (with_reducible assumption) | assumption); obtain ⟨i027, hi027, _, hsz27, _⟩ := info_parts info25; have hroom27 : x5_1.length ≤ co24 := (Kd.R_reads' HO_5.out).2.1; have hC27 : Kd.C k25 _ (some ad233) x5_1.length x5_1 := (Kd.R_reads' HO_5.out).2.2; have q027 : (0 : Int) ≤ (x8_2 : Int) := of_decide_eq_true (by first | (with_reducible assumption) | assumption); have hcut27 := cut_from (P := Try.prog) 26 25 .i64 Try.underlying26 hi027 3 hsz27 (some ad233) x5_1.length co24 x8_2 q027 q27; have hr27 := Kd.C_drop (m := (x8_2 : Int).toNat) (c := co24) hC27 (by omega) hroom27; obtain ⟨A27, hA27⟩ : ∃ A1, A1 = (if co24 = (x8_2 : Int).toNat then (some ad233) else ((some ad233) : Option Addr).map (·.add ((x8_2 : Int).toNat * 3))) := ⟨_, rfl⟩; obtain ⟨c27, hc27⟩ : ∃ c1, c1 = co24 - (x8_2 : Int).toNat := ⟨_, rfl⟩; have hy27 : y244.length = x5_1.length - (x8_2 : Int).toNat := (by rw [Ny244.out, List.length_drop] <;> omega); rw [show (x5_1).drop (x8_2 : Int).toNat = y244 from Ny244.out.symm] at hr27; replace hr27 : Kd.C k25 _ A27 y244.length y244 := (by rw [hA27]; exact hr27); rw [← hy27, ← hA27, ← hc27] at hcut27; have HR247 := Aside0.mk hr27; have HC247 := Aside0.mk (show y244.length ≤ c27 from by rw [hy27, hc27]; exact Nat.sub_le_sub_right hroom27 _); clear hr27 hC27 hroom27 hi027 hsz27 hc27; have KY27 := Aside0.mk hy27; have KA27 := Aside0.mk hA27; clear hy27 hA27; have KL27 := Aside0.mk (show (x8_2 : Int).toNat ≤ x5_1.length from by omega); replace q27 := eq_true q27) | ((with_reducible refine gate_builtin (b := .append) (xs := #[.tmp 62, .tmp 65]) rfl ?_); at_builtin; refine Kd.R_append_rows k25 (w0 := w) w.heap.size rfl (.tmp 62) (.tmp 65) 26 25 (.agg #[(.int .i64 0), (.int .i64 0), (.int .i64 0)]) 24 rfl Try.underlying26 info25 rfl (by decide) (by omega) v242 y241 y244 _ _ _ (fun k_ => some k_ ≠ (.slice (some ad233) x5_1.length co24 : Value).ownBlock) (fun _ => False) rfl rfl ?aO ?aR (fun _ _ h => h) (fun _ h => h.elim) ?aF ?aB ?aS ?aL ?_; (case aR => repeat (first | exact (by repeat (first | (with_reducible exact HR247.out) | (with_reducible refine Kd.C_alloc ?_ _) | (with_reducible refine Kd.C_drewN ?_ _) | (with_reducible refine Kd.C_drew ?_) | exact HR247.out)) | (with_reducible refine Kd.C_alloc ?_ _) | (with_reducible refine Kd.C_drewN ?_ _) | (with_reducible refine Kd.C_drew ?_))); (case aB => exact (by repeat (first | (with_reducible first | exact HB.out | apply below_alloc | apply pw_below_drewN | apply below_drew1) | exact HB.out))); (case aF => exact (fun k_ hk => Kd.fresh' (Kd.R_lt (by (with_reducible repeat (first | apply Kd.R_alloc | apply Kd.R_drewN | apply Kd.R_drew)); exact HO_5.out)) k_ hk)); (case aO => exact (by (with_reducible repeat (first | apply Kd.R_alloc | apply Kd.R_drewN | apply Kd.R_drew)); exact HO243.out)); (case aS => exact (below_size (by repeat (first | (with_reducible first | exact HB.out | apply below_alloc | apply pw_below_drewN | apply below_drew1) | exact HB.out)))); (case aL => have := LMc22.out; omega); intro v249 w28 ho hb hg hat; rw [← Ny248.out] at ho; have n0_ := Aside0.mk (Kd.R_after (ok := (fun _ => True)) (by (with_reducible repeat (first | apply Kd.R_alloc | apply Kd.R_drewN | apply Kd.R_drew)); exact HO_5.out) hg hat); have n1_ := Aside0.mk (hb); have n2_ := Aside0.mk ((show Kd.C k25 w28 A27 y244.length y244 from by rw [Ny244.out, KA27.out]; exact Kd.C_drop (m := (x8_2 : Int).toNat) (c := co24) ((Kd.R_reads' (Kd.R_after (ok := (fun _ => True)) (by (with_reducible repeat (first | apply Kd.R_alloc | apply Kd.R_drewN | apply Kd.R_drew)); exact HO_5.out) hg hat)).2.2) KL27.out ((Kd.R_reads' (Kd.R_after (ok := (fun _ => True)) (by (with_reducible repeat (first | apply Kd.R_alloc | apply Kd.R_drewN | apply Kd.R_drew)); exact HO_5.out) hg hat)).2.1))); have n3_ := Aside0.mk (ho); clear HO_5; clear HB; clear HR247; clear HO243; have HO_5 := n0_; have HB := n1_; have HR247 := n2_; have HO250 := n3_; clear n0_ n1_ n2_ n3_; clear ho hb hg hat))
                                go_roundg k2
                                case measure => have := HK1.out; have := HK2.out; omega
                                case rel => exact ⟨(y248), (wrap64 (x6_1 + 1)), (by first | rfl | (simp; done) | (simp [*]; done)), H', ⟨by have := HK1.out; have := HK2.out; omega⟩, ⟨by (with_reducible repeat (first | apply Kd.R_alloc | apply Kd.R_drewN | apply Kd.R_drew)); exact Kd.R_mono HO250.out (fun _ hk => trivial)⟩, ⟨by repeat (first | (with_reducible first | exact HB.out | apply below_alloc | apply pw_below_drewN | apply below_drew1) | exact HB.out)⟩⟩
                              · rw [if_neg c22] at H
                                exact absurd H (by simp)
                            · rw [if_neg c21] at H
                              exact absurd H (by simp)
                          · rw [if_neg c19] at H
                            exact absurd H (by simp)
                      · rw [if_neg c11] at H
                        exact absurd H (by simp)
                    · rw [if_neg c10] at H
                      exact absurd H (by simp)
                  · rw [if_neg c9] at H
                    exact absurd H (by simp)
                · rw [if_neg c8] at H
                  have c8b0 : decide (x8_2 < (x5_1.length : Int)) = false := decide_eq_false c8
                  clear c8
                  by_cases c29 : 0 ≤ x6_1
                  · rw [if_pos c29] at H
                    have c29b0 : decide (0 ≤ x6_1) = true := decide_eq_true c29
                    clear c29
                    by_cases c30 : x6_1 < (l0.length : Int)
                    · rw [if_pos c30] at H
                      have c30b0 : decide (x6_1 < (l0.length : Int)) = true := decide_eq_true c30
                      clear c30
                      by_cases c31 : x7_2.length < 5864062014805
                      · rw [if_pos c31] at H
                        have LMc31 := Aside0.mk c31
                        clear c31
                        obtain ⟨y252, hy252⟩ : ∃ y_ : List (S25), y_ = (x7_2 ++ [(⟨(rd_T25 l0 x6_1).f0, (rd_T25 l0 x6_1).f1, (rd_T25 l0 x6_1).f2⟩ : S25)]) := ⟨_, rfl⟩
                        replace H : (if 0 ≤ x8_2 then (if x8_2 ≤ (x5_1.length : Int) then ((some (x5_1.drop (x8_2 : Int).toNat : List (S25))).bind fun y255 => (if y252.length + y255.length < 5864062014805 then (lighterref08_Victims.l0 k2 l0 a1 (y252 ++ y255) (wrap64 (x6_1 + 1))) else (none))) else (none)) else (none)) = some r := by first | (rw [hy252]; with_reducible exact H) | (have H2_ := (Option.bind_some _ _).symm.trans H; rw [hy252]; with_reducible exact H2_) | (have H2_ := (Option.bind_some _ _).symm.trans H; with_reducible exact H2_) | with_reducible exact H | (rw [hy252]; exact H) | exact H
                        have Ny252 := Aside0.mk hy252
                        clear hy252
                        by_cases c32 : 0 ≤ x8_2
                        · rw [if_pos c32] at H
                          have c32b0 := eq_true c32
                          have c32b1 : decide (0 ≤ x8_2) = true := decide_eq_true c32
                          clear c32
                          by_cases c33 : x8_2 ≤ (x5_1.length : Int)
                          · rw [if_pos c33] at H
                            have c33b0 := eq_true c33
                            have c33b1 : decide (x8_2 ≤ (x5_1.length : Int)) = true := decide_eq_true c33
                            clear c33
                            obtain ⟨y255, hy255⟩ : ∃ y_ : List (S25), y_ = (x5_1.drop (x8_2 : Int).toNat) := ⟨_, rfl⟩
                            replace H : (if y252.length + y255.length < 5864062014805 then (lighterref08_Victims.l0 k2 l0 a1 (y252 ++ y255) (wrap64 (x6_1 + 1))) else (none)) = some r := by first | (rw [hy255]; with_reducible exact H) | (have H2_ := (Option.bind_some _ _).symm.trans H; rw [hy255]; with_reducible exact H2_) | (have H2_ := (Option.bind_some _ _).symm.trans H; with_reducible exact H2_) | with_reducible exact H | (rw [hy255]; exact H) | exact H
                            have Ny255 := Aside0.mk hy255
                            clear hy255
                            by_cases c34 : y252.length + y255.length < 5864062014805
                            · rw [if_pos c34] at H
                              have LMc34 := Aside0.mk c34
                              clear c34
                              obtain ⟨y259, hy259⟩ : ∃ y_ : List (S25), y_ = (y252 ++ y255) := ⟨_, rfl⟩
                              replace H : (lighterref08_Victims.l0 k2 l0 a1 y259 (wrap64 (x6_1 + 1))) = some r := by first | (rw [hy259]; with_reducible exact H) | (have H2_ := (Option.bind_some _ _).symm.trans H; rw [hy259]; with_reducible exact H2_) | (have H2_ := (Option.bind_some _ _).symm.trans H; with_reducible exact H2_) | with_reducible exact H | (rw [hy259]; exact H) | exact H
                              have Ny259 := Aside0.mk hy259
                              clear hy259
                              have H' := Aside0.mk H
                              clear H
                              try go_wp2
                              have n0_ := Aside0.mk (Kd.R_drew HO_5.out)
                              have n1_ := Aside0.mk (Kd.R_drew HO_7.out)
                              have n2_ := Aside0.mk (below_drew1 HB.out)
                              clear HO_5
                              clear HO_7
                              clear HB
                              have HO_5 := n0_
                              have HO_7 := n1_
                              have HB := n2_
                              clear n0_ n1_ n2_
                              obtain ⟨Ao36, co36, eo36⟩ := Kd.R_slice HO_5.out
                              (first | subst eo36 | (injection eo36 with f1_ f2_ f3_; have f4_ := f1_.symm; have f5_ := f3_.symm; clear f1_ f2_ f3_; subst f4_; subst f5_))
                              refine start_ (n := 15) (S := fun w' => True) (ds := []) #[false, false, false, false, false, false, false, false, false, false, false, false, false, false, false] (by kernel_rfl) rfl rfl trivial (fun hHeld => ?_); refine with_tabW lighterref08_Victims.tab8 lighterref08_Victims.bits8 (fun HT_ HW_ => ?_)
                              generalize wr.drew = w35 at HO_5 HO_7 HB hHeld ⊢
                              refine pure_ (i := 0) (N := some 31) (v := ?_) (a' := ?_) #[true, false, false, false, false, false, false, false, false, false, false, false, false, false, false] rfl rfl (any_of HT_.out (by kernel_rfl)) (fun _ _ _ h => h) (Or.inl ⟨by rfl, ?_⟩) ?_ ?_
                              rotate_left
                              · intro w'
                                go_simp
                                with_reducible rfl
                              rotate_left
                              · simp only [Act.put, List.setIfInBounds_toArray, List.set_cons_zero, List.set_cons_succ, i64_w, i32_w]
                                rfl
                              refine pure_ (i := 1) (N := some 32) (v := ?_) (a' := ?_) #[true, true, false, false, false, false, false, false, false, false, false, false, false, false, false] rfl rfl (any_of HT_.out (by kernel_rfl)) (fun _ _ _ h => h) (Or.inl ⟨by rfl, ?_⟩) ?_ ?_
                              rotate_left
                              · intro w'
                                go_simp
                                with_reducible rfl
                              rotate_left
                              · simp only [Act.put, List.setIfInBounds_toArray, List.set_cons_zero, List.set_cons_succ, i64_w, i32_w]
                                rfl
                              refine pure_ (i := 2) (N := some 33) (v := ?_) (a' := ?_) #[true, true, true, false, false, false, false, false, false, false, false, false, false, false, false] rfl rfl (any_of HT_.out (by kernel_rfl)) (fun _ _ _ h => h) (Or.inl ⟨by rfl, ?_⟩) ?_ ?_
                              rotate_left
                              · intro w'
                                go_simp
                                with_reducible rfl
                              rotate_left
                              · simp only [Act.put, List.setIfInBounds_toArray, List.set_cons_zero, List.set_cons_succ, i64_w, i32_w]
                                rfl
                              refine pure_ (i := 3) (N := some 34) (v := ?_) (a' := ?_) #[true, true, true, true, false, false, false, false, false, false, false, false, false, false, false] rfl rfl (any_of HT_.out (by kernel_rfl)) (fun _ _ _ h => h) (Or.inl ⟨by rfl, ?_⟩) ?_ ?_
                              rotate_left
                              · intro w'
                                go_simp
                                with_reducible rfl
                              rotate_left
                              · simp only [Act.put, List.setIfInBounds_toArray, List.set_cons_zero, List.set_cons_succ, i64_w, i32_w]
                                rfl
                              refine pure_ (i := 4) (N := some 35) (v := ?_) (a' := ?_) #[true, true, true, true, true, false, false, false, false, false, false, false, false, false, false] rfl rfl (any_of HT_.out (by kernel_rfl)) (fun _ _ _ h => h) (Or.inl ⟨by rfl, ?_⟩) ?_ ?_
                              rotate_left
                              · intro w'
                                go_simp
                                with_reducible rfl
                              rotate_left
                              · simp only [Act.put, List.setIfInBounds_toArray, List.set_cons_zero, List.set_cons_succ, i64_w, i32_w]
                                rfl
                              refine pure_ (i := 5) (N := some 36) (v := undef) (a' := ?_) #[true, true, true, true, true, true, false, false, false, false, false, false, false, false, false] rfl rfl (any_of HT_.out (by kernel_rfl)) (fun _ _ _ h => h) (Or.inr ⟨by rfl, rfl⟩) ?_ ?_
                              rotate_left
                              · simp only [Act.put, List.setIfInBounds_toArray, List.set_cons_zero, List.set_cons_succ, i64_w, i32_w]
                                rfl
                              refine pure_ (i := 6) (N := some 37) (v := undef) (a' := ?_) #[true, true, true, true, true, true, true, false, false, false, false, false, false, false, false] rfl rfl (any_of HT_.out (by kernel_rfl)) (fun _ _ _ h => h) (Or.inr ⟨by rfl, rfl⟩) ?_ ?_
                              rotate_left
                              · simp only [Act.put, List.setIfInBounds_toArray, List.set_cons_zero, List.set_cons_succ, i64_w, i32_w]
                                rfl
                              refine pure_ (i := 7) (N := some 38) (v := undef) (a' := ?_) #[true, true, true, true, true, true, true, true, false, false, false, false, false, false, false] rfl rfl (any_of HT_.out (by kernel_rfl)) (fun _ _ _ h => h) (Or.inr ⟨by rfl, rfl⟩) ?_ ?_
                              rotate_left
                              · simp only [Act.put, List.setIfInBounds_toArray, List.set_cons_zero, List.set_cons_succ, i64_w, i32_w]
                                rfl
                              refine pure_ (i := 8) (N := some 39) (v := undef) (a' := ?_) #[true, true, true, true, true, true, true, true, true, false, false, false, false, false, false] rfl rfl (any_of HT_.out (by kernel_rfl)) (fun _ _ _ h => h) (Or.inr ⟨by rfl, rfl⟩) ?_ ?_
                              rotate_left
                              · simp only [Act.put, List.setIfInBounds_toArray, List.set_cons_zero, List.set_cons_succ, i64_w, i32_w]
                                rfl
                              refine pure_ (i := 9) (N := some 40) (v := undef) (a' := ?_) #[true, true, true, true, true, true, true, true, true, true, false, false, false, false, false] rfl rfl (any_of HT_.out (by kernel_rfl)) (fun _ _ _ h => h) (Or.inr ⟨by rfl, rfl⟩) ?_ ?_
                              rotate_left
                              · simp only [Act.put, List.setIfInBounds_toArray, List.set_cons_zero, List.set_cons_succ, i64_w, i32_w]
                                rfl
                              refine pure_ (i := 10) (N := some 41) (v := undef) (a' := ?_) #[true, true, true, true, true, true, true, true, true, true, true, false, false, false, false] rfl rfl (any_of HT_.out (by kernel_rfl)) (fun _ _ _ h => h) (Or.inr ⟨by rfl, rfl⟩) ?_ ?_
                              rotate_left
                              · simp only [Act.put, List.setIfInBounds_toArray, List.set_cons_zero, List.set_cons_succ, i64_w, i32_w]
                                rfl
                              refine pure_ (i := 11) (N := some 42) (v := undef) (a' := ?_) #[true, true, true, true, true, true, true, true, true, true, true, true, false, false, false] rfl rfl (any_of HT_.out (by kernel_rfl)) (fun _ _ _ h => h) (Or.inr ⟨by rfl, rfl⟩) ?_ ?_
                              rotate_left
                              · simp only [Act.put, List.setIfInBounds_toArray, List.set_cons_zero, List.set_cons_succ, i64_w, i32_w]
                                rfl
                              refine pure_ (i := 12) (N := some 43) (v := undef) (a' := ?_) #[true, true, true, true, true, true, true, true, true, true, true, true, true, false, false] rfl rfl (any_of HT_.out (by kernel_rfl)) (fun _ _ _ h => h) (Or.inr ⟨by rfl, rfl⟩) ?_ ?_
                              rotate_left
                              · simp only [Act.put, List.setIfInBounds_toArray, List.set_cons_zero, List.set_cons_succ, i64_w, i32_w]
                                rfl
                              refine pure_ (i := 13) (N := some 44) (v := undef) (a' := ?_) #[true, true, true, true, true, true, true, true, true, true, true, true, true, true, false] rfl rfl (any_of HT_.out (by kernel_rfl)) (fun _ _ _ h => h) (Or.inr ⟨by rfl, rfl⟩) ?_ ?_
                              rotate_left
                              · simp only [Act.put, List.setIfInBounds_toArray, List.set_cons_zero, List.set_cons_succ, i64_w, i32_w]
                                rfl
                              refine pure_ (i := 14) (N := some 45) (v := ?_) (a' := ?_) #[true, true, true, true, true, true, true, true, true, true, true, true, true, true, true] rfl rfl (any_of HT_.out (by kernel_rfl)) (fun _ _ _ h => h) (Or.inl ⟨by rfl, ?_⟩) ?_ ?_
                              rotate_left
                              · intro w'
                                go_simp
                                with_reducible rfl
                              rotate_left
                              · simp only [Act.put, List.setIfInBounds_toArray, List.set_cons_zero, List.set_cons_succ, i64_w, i32_w]
                                rfl
                              refine done_ (done_of HT_.out (by kernel_rfl)) ?_
                              have p251 : 0 ≤ (x6_1 : Int) := of_decide_eq_true (by first | (with_reducible assumption) | assumption)
                              have q251 : x6_1 < (l0.length : Int) := of_decide_eq_true (by first | (with_reducible assumption) | assumption)
                              obtain ⟨ad251, e251, hx251_0, hx251_1, hx251_2⟩ := at_T25 HR0.out x6_1 p251 q251
                              obtain rfl : ad231 = ad251 := (by injection e251)
                              replace hx251_0 := (HB.out.cell (World.block_lt_of_cell? w _ hx251_0)).trans hx251_0
                              replace hx251_1 := (HB.out.cell (World.block_lt_of_cell? w _ hx251_1)).trans hx251_1
                              replace hx251_2 := (HB.out.cell (World.block_lt_of_cell? w _ hx251_2)).trans hx251_2
                              replace p251 := eq_true p251
                              replace q251 := eq_true q251
                              try go_wp2_with (first | ((with_reducible refine gate_builtin (b := .append) (xs := #[.tmp 55, .tmp 60]) rfl ?_); at_builtin; refine Kd.R_append k25 (w0 := w) w.heap.size rfl (.tmp 55) (.tmp 60) 26 25 (.agg #[(.int .i64 0), (.int .i64 0), (.int .i64 0)]) 24 rfl Try.underlying26 info25 rfl (by decide) (by omega) u7 x7_2 (⟨(rd_T25 l0 x6_1).f0, (rd_T25 l0 x6_1).f1, (rd_T25 l0 x6_1).f2⟩ : S25) [.int .i64 ((rd_T25 l0 x6_1).f0), .int .i64 ((rd_T25 l0 x6_1).f1), .int .i64 ((rd_T25 l0 x6_1).f2)] (fun k_ => some k_ ≠ (.slice Ao36 x5_1.length co36 : Value).ownBlock) (fun _ => False) rfl rfl ?aP (fun _ hk => hk.elim) ?aF ?aO ?aB ?aS ?aL ?_; (case aP => exact k25_mkM _ _ _ (⟨(rd_T25 l0 x6_1).f0, (rd_T25 l0 x6_1).f1, (rd_T25 l0 x6_1).f2⟩ : S25)); (case aB => exact (by repeat (first | (with_reducible first | exact HB.out | apply below_alloc | apply pw_below_drewN | apply below_drew1) | exact HB.out))); (case aF => exact (fun k_ hk => Kd.fresh' (Kd.R_lt (by (with_reducible repeat (first | apply Kd.R_alloc | apply Kd.R_drewN | apply Kd.R_drew)); exact HO_5.out)) k_ hk)); (case aO => exact (by (with_reducible repeat (first | apply Kd.R_alloc | apply Kd.R_drewN | apply Kd.R_drew)); exact HO_7.out)); (case aS => exact (below_size (by repeat (first | (with_reducible first | exact HB.out | apply below_alloc | apply pw_below_drewN | apply below_drew1) | exact HB.out)))); (case aL => have := LMc31.out; omega); intro v253 w37 ho hb hg hat; rw [← Ny252.out] at ho; have n0_ := Aside0.mk (Kd.R_after (ok := (fun _ => True)) (by (with_reducible repeat (first | apply Kd.R_alloc | apply Kd.R_drewN | apply Kd.R_drew)); exact Kd.R_mono HO_5.out (fun _ hk => ⟨trivial, hk⟩)) hg hat); have n1_ := Aside0.mk (hb); have n2_ := Aside0.mk (ho); clear HO_5; clear HB; clear HO_7; have HO_5 := n0_; have HB := n1_; have HO254 := n2_; clear n0_ n1_ n2_; clear ho hb hg hat; have q38 : (x8_2 : Int) ≤ ((x5_1.length : Int) : Int) := of_decide_eq_true (by first | (with_reducible assumption) | assumption); obtain ⟨i038, hi038, _, hsz38, _⟩ := info_parts info25; have hroom38 : x5_1.length ≤ co36 := (Kd.R_reads' HO_5.out).2.1; have hC38 : Kd.C k25 _ Ao36 x5_1.length x5_1 := (Kd.R_reads' HO_5.out).2.2; have q038 : (0 : Int) ≤ (x8_2 : Int) := of_decide_eq_true (by first | (with_reducible assumption) | assumption); have hcut38 := cut_from (P := Try.prog) 26 25 .i64 Try.underlying26 hi038 3 hsz38 Ao36 x5_1.length co36 x8_2 q038 q38; have hr38 := Kd.C_drop (m := (x8_2 : Int).toNat) (c := co36) hC38 (by omega) hroom38; obtain ⟨A38, hA38⟩ : ∃ A1, A1 = (if co36 = (x8_2 : Int).toNat then Ao36 else (Ao36 : Option Addr).map (·.add ((x8_2 : Int).toNat * 3))) := ⟨_, rfl⟩; obtain ⟨c38, hc38⟩ : ∃ c1, c1 = co36 - (x8_2 : Int).toNat := ⟨_, rfl⟩; have hy38 : y255.length = x5_1.length - (x8_2 : Int).toNat := (by rw [Ny255.out, List.length_drop] <;> omega); rw [show (x5_1).drop (x8_2 : Int).toNat = y255 from Ny255.out.symm] at hr38; replace hr38 : Kd.C k25 _ A38 y255.length y255 := (by rw [hA38]; exact hr38); rw [← hy38, ← hA38, ← hc38] at hcut38; have HR258 := Aside0.mk hr38; have HC258 := Aside0.mk (show y255.length ≤ c38 from by rw [hy38, hc38]; exact Nat.sub_le_sub_right hroom38 _); clear hr38 hC38 hroom38 hi038 hsz38 hc38; have KY38 := Aside0.mk hy38; have KA38 := Aside0.mk hA38; clear hy38 hA38; have KL38 := Aside0.mk (show (x8_2 : Int).toNat ≤ x5_1.length from by omega); replace q38 := eq_true q38) | ((with_reducible refine gate_builtin (b := .append) (xs := #[.tmp 62, .tmp 65]) rfl ?_); at_builtin; refine Kd.R_append_rows k25 (w0 := w) w.heap.size rfl (.tmp 62) (.tmp 65) 26 25 (.agg #[(.int .i64 0), (.int .i64 0), (.int .i64 0)]) 24 rfl Try.underlying26 info25 rfl (by decide) (by omega) v253 y252 y255 _ _ _ (fun k_ => some k_ ≠ (.slice Ao36 x5_1.length co36 : Value).ownBlock) (fun _ => False) rfl rfl ?aO ?aR (fun _ _ h => h) (fun _ h => h.elim) ?aF ?aB ?aS ?aL ?_; (case aR => repeat (first | exact (by repeat (first | (with_reducible exact HR258.out) | (with_reducible refine Kd.C_alloc ?_ _) | (with_reducible refine Kd.C_drewN ?_ _) | (with_reducible refine Kd.C_drew ?_) | exact HR258.out)) | (with_reducible refine Kd.C_alloc ?_ _) | (with_reducible refine Kd.C_drewN ?_ _) | (with_reducible refine Kd.C_drew ?_))); (case aB => exact (by repeat (first | (with_reducible first | exact HB.out | apply below_alloc | apply pw_below_drewN | apply below_drew1) | exact HB.out))); (case aF => exact (fun k_ hk => Kd.fresh' (Kd.R_lt (by (with_reducible repeat (first | apply Kd.R_alloc | apply Kd.R_drewN | apply Kd.R_drew)); exact HO_5.out)) k_ hk)); (case aO => exact (by (with_reducible repeat (first | apply Kd.R_alloc | apply Kd.R_drewN | apply Kd.R_drew)); exact HO254.out)); (case aS => exact (below_size (by repeat (first | (with_reducible first | exact HB.out | apply below_alloc | apply pw_below_drewN | apply below_drew1) | exact HB.out)))); (case aL => have := LMc34.out; omega); intro v260 w39 ho hb hg hat; rw [← Ny259.out] at ho; have n0_ := Aside0.mk (Kd.R_after (ok := (fun _ => True)) (by (with_reducible repeat (first | apply Kd.R_alloc | apply Kd.R_drewN | apply Kd.R_drew)); exact HO_5.out) hg hat); have n1_ := Aside0.mk (hb); have n2_ := Aside0.mk ((show Kd.C k25 w39 A38 y255.length y255 from by rw [Ny255.out, KA38.out]; exact Kd.C_drop (m := (x8_2 : Int).toNat) (c := co36) ((Kd.R_reads' (Kd.R_after (ok := (fun _ => True)) (by (with_reducible repeat (first | apply Kd.R_alloc | apply Kd.R_drewN | apply Kd.R_drew)); exact HO_5.out) hg hat)).2.2) KL38.out ((Kd.R_reads' (Kd.R_after (ok := (fun _ => True)) (by (with_reducible repeat (first | apply Kd.R_alloc | apply Kd.R_drewN | apply Kd.R_drew)); exact HO_5.out) hg hat)).2.1))); have n3_ := Aside0.mk (ho); clear HO_5; clear HB; clear HR258; clear HO254; have HO_5 := n0_; have HB := n1_; have HR258 := n2_; have HO261 := n3_; clear n0_ n1_ n2_ n3_; clear ho hb hg hat))
                              go_roundg k2
                              case measure => have := HK1.out; have := HK2.out; omega
                              case rel => exact ⟨(y259), (wrap64 (x6_1 + 1)), (by first | rfl | (simp; done) | (simp [*]; done)), H', ⟨by have := HK1.out; have := HK2.out; omega⟩, ⟨by (with_reducible repeat (first | apply Kd.R_alloc | apply Kd.R_drewN | apply Kd.R_drew)); exact Kd.R_mono HO261.out (fun _ hk => trivial)⟩, ⟨by repeat (first | (with_reducible first | exact HB.out | apply below_alloc | apply pw_below_drewN | apply below_drew1) | exact HB.out)⟩⟩
                            · rw [if_neg c34] at H
                              exact absurd H (by simp)
                          · rw [if_neg c33] at H
                            exact absurd H (by simp)
                        · rw [if_neg c32] at H
                          exact absurd H (by simp)
                      · rw [if_neg c31] at H
                        exact absurd H (by simp)
                    · rw [if_neg c30] at H
                      exact absurd H (by simp)
                  · rw [if_neg c29] at H
                    exact absurd H (by simp)
        · rw [if_neg c4] at H
          exact absurd H (by simp)
      · rw [if_neg c3] at H
        have c3b0 : decide (x6_1 < (l0.length : Int)) = false := decide_eq_false c3
        clear c3
        have H' := Aside0.mk H
        clear H
        go_wp2
        go_loopg [9, 10] k1 (fun kq v9 v10 w' => ∃ (x9_2 : List Int) (x10_2 : Int), v10 = .int .i64 x10_2 ∧ Aside0 (lighterref08_Victims.l2 kq x5_1 x9_2 x10_2 = some r) ∧ Aside0 (kq ≤ k1) ∧ Aside0 (Kd.R k25 25 w' w.heap.size (fun _ => True) u5 x5_1) ∧ Aside0 (Kd.R (Kd.int .i64) 3 w' w.heap.size (fun _ => True) v9 x9_2) ∧ Aside0 (Below w.heap.size w w'))
        case atStart => exact ⟨(([] : List Int)), (0), (by first | rfl | (simp; done) | (simp [*]; done)), H', ⟨Nat.le_refl _⟩, ⟨by (with_reducible repeat (first | apply Kd.R_alloc | apply Kd.R_drewN | apply Kd.R_drew)); exact HO_5.out⟩, ⟨by first | exact Kd.R_nil _ _ _ _ _ | exact Kd.N_nil _ _ _ _ _ | exact Kd.V_nil _ _ _ _ _ | exact Kd.Q_nil _ _ _ _ _ | exact Kd.S_nil _ _ _ _ _⟩, ⟨by repeat (first | (with_reducible first | exact HB.out | apply below_alloc | apply pw_below_drewN | apply below_drew1) | exact HB.out)⟩⟩
        case round =>
          clear H'
          try clear c1
          try clear c2
          try clear p2
          try clear q2
          try clear hx2
          try clear c3
          try clear c3b0
          try clear q3
          try clear c4
          try clear c5
          try clear p6
          try clear c8
          try clear c8b0
          try clear c9
          try clear c10
          try clear c11
          try clear c13
          try clear c14
          try clear c19
          try clear c20
          try clear c20b0
          try clear c21
          try clear c21b0
          try clear c21b1
          try clear c22
          try clear p23
          try clear q23
          try clear hx23
          try clear p24
          try clear q24
          try clear hx24
          try clear p25
          try clear q25
          try clear hx25
          try clear c27
          try clear q27
          try clear c29
          try clear c29b0
          try clear c30
          try clear c30b0
          try clear c31
          try clear c32
          try clear c32b0
          try clear c32b1
          try clear c33
          try clear c33b0
          try clear c33b1
          try clear c34
          try clear c38
          try clear q38
          try clear hx233_0
          try clear hx233_1
          try clear hx233_2
          try clear hx234_0
          try clear hx234_1
          try clear hx234_2
          try clear hx236_0
          try clear hx236_1
          try clear hx236_2
          try clear hx240_0
          try clear hx240_1
          try clear hx240_2
          try clear hx251_0
          try clear hx251_1
          try clear hx251_2
          try clear p233
          try clear p234
          try clear p236
          try clear p240
          try clear p251
          try clear q027
          try clear q038
          try clear q233
          try clear q234
          try clear q236
          try clear q240
          try clear q251
          try clear q27
          try clear q38
          obtain ⟨x9_2, x10_2, rfl, HA, HK2, HO_5, HO_9, HB⟩ := hrel
          cases gk with
          | zero => exact absurd HA.out (by simp [lighterref08_Victims.l2])
          | succ k2 =>
            have H := HA.out
            clear HA
            simp only [lighterref08_Victims.l2] at H
            by_cases c40 : x10_2 < (x5_1.length : Int)
            · rw [if_pos c40] at H
              have c40b0 : decide (x10_2 < (x5_1.length : Int)) = true := decide_eq_true c40
              clear c40
              by_cases c41 : 0 ≤ x10_2
              · rw [if_pos c41] at H
                have c41b0 : decide (0 ≤ x10_2) = true := decide_eq_true c41
                clear c41
                by_cases c42 : x9_2.length < 17592186044416
                · rw [if_pos c42] at H
                  have LMc42 := Aside0.mk c42
                  clear c42
                  obtain ⟨y263, hy263⟩ : ∃ y_ : List Int, y_ = (x9_2 ++ [(rd_T25 x5_1 x10_2).f0]) := ⟨_, rfl⟩
                  replace H : (lighterref08_Victims.l2 k2 x5_1 y263 (wrap64 (x10_2 + 1))) = some r := by first | (rw [hy263]; with_reducible exact H) | (have H2_ := (Option.bind_some _ _).symm.trans H; rw [hy263]; with_reducible exact H2_) | (have H2_ := (Option.bind_some _ _).symm.trans H; with_reducible exact H2_) | with_reducible exact H | (rw [hy263]; exact H) | exact H
                  have Ny263 := Aside0.mk hy263
                  clear hy263
                  have H' := Aside0.mk H
                  clear H
                  obtain ⟨Ao43, co43, eo43⟩ := Kd.R_slice HO_5.out
                  subst eo43
                  have p262 : 0 ≤ (x10_2 : Int) := of_decide_eq_true (by first | (with_reducible assumption) | assumption)
                  have q262 : x10_2 < (x5_1.length : Int) := of_decide_eq_true (by first | (with_reducible assumption) | assumption)
                  obtain ⟨ad262, e262, hx262_0, hx262_1, hx262_2⟩ := at_T25 (Kd.R_reads' HO_5.out).2.2 x10_2 p262 q262
                  cases e262
                  replace p262 := eq_true p262
                  replace q262 := eq_true q262
                  go_wp2_with (first | ((with_reducible refine gate_builtin (b := .append) (xs := #[.tmp 73, .tmp 79]) rfl ?_); at_builtin; refine Kd.R_append (Kd.int .i64) (w0 := w) w.heap.size rfl (.tmp 73) (.tmp 79) 47 3 (.int .i64 0) 8 rfl Try.underlying47 info3 rfl (by decide) (by omega) u9 x9_2 ((rd_T25 x5_1 x10_2).f0) [.int .i64 ((rd_T25 x5_1 x10_2).f0)] (fun _ => True) (fun _ => False) rfl rfl ?aP (fun _ hk => hk.elim) ?aF ?aO ?aB ?aS ?aL ?_; (case aP => exact rfl); (case aB => exact (by repeat (first | (with_reducible first | exact HB.out | apply below_alloc | apply pw_below_drewN | apply below_drew1) | exact HB.out))); (case aF => exact (fun _ _ => trivial)); (case aO => exact (by (with_reducible repeat (first | apply Kd.R_alloc | apply Kd.R_drewN | apply Kd.R_drew)); exact HO_9.out)); (case aS => exact (below_size (by repeat (first | (with_reducible first | exact HB.out | apply below_alloc | apply pw_below_drewN | apply below_drew1) | exact HB.out)))); (case aL => have := LMc42.out; omega); intro v264 w44 ho hb hg hat; rw [← Ny263.out] at ho; have n0_ := Aside0.mk (Kd.R_over' (by (with_reducible repeat (first | apply Kd.R_alloc | apply Kd.R_drewN | apply Kd.R_drew)); exact HO_5.out) (Kd.R_typed (by (with_reducible repeat (first | apply Kd.R_alloc | apply Kd.R_drewN | apply Kd.R_drew)); exact HO_9.out)) (by decide) hg); have n1_ := Aside0.mk (hb); have n2_ := Aside0.mk (ho); clear HO_5; clear HB; clear HO_9; have HO_5 := n0_; have HB := n1_; have HO265 := n2_; clear n0_ n1_ n2_; clear ho hb hg hat))
                  go_roundg k2
                  case measure => have := HK1.out; have := HK2.out; omega
                  case rel => exact ⟨(y263), (wrap64 (x10_2 + 1)), (by first | rfl | (simp; done) | (simp [*]; done)), H', ⟨by have := HK1.out; have := HK2.out; omega⟩, ⟨by (with_reducible repeat (first | apply Kd.R_alloc | apply Kd.R_drewN | apply Kd.R_drew)); exact HO_5.out⟩, ⟨by (with_reducible repeat (first | apply Kd.R_alloc | apply Kd.R_drewN | apply Kd.R_drew)); exact HO265.out⟩, ⟨by repeat (first | (with_reducible first | exact HB.out | apply below_alloc | apply pw_below_drewN | apply below_drew1) | exact HB.out)⟩⟩
                · rw [if_neg c42] at H
                  exact absurd H (by simp)
              · rw [if_neg c41] at H
                exact absurd H (by simp)
            · rw [if_neg c40] at H
              have c40b0 : decide (x10_2 < (x5_1.length : Int)) = false := decide_eq_false c40
              clear c40
              obtain rfl := Option.some.inj H
              obtain ⟨Ao45, co45, eo45⟩ := Kd.R_slice HO_5.out
              subst eo45
              go_wp2
              go_ret
              exact ⟨_, by first | rfl | (simp [errW_none, errW_some] <;> rfl) | (simp [*, errW_none, errW_some] <;> rfl), by (with_reducible repeat (first | apply Kd.R_alloc | apply Kd.R_drewN | apply Kd.R_drew)); exact HO_9.out, by repeat (first | (with_reducible first | exact HB.out | apply below_alloc | apply pw_below_drewN | apply below_drew1) | exact HB.out)⟩
end Go.Proofs.Ytcjeegomonegpaa.PLivePlays
namespace Go.Proofs.Ytcjeegomonegpaa.PLivePlays
open Go.RowKit Go.Maps Go.Sort Go.Proofs.YtcjeegomonegpaaW.PrintWords Go.Proofs.YtcjeegomonegpaaW.PrintLast Go.Proofs.YtcjeegomonegpaaW.PrintMore
set_option linter.unusedVariables false
set_option linter.unusedSimpArgs false
def Good (L : List S23) : Prop := L.Pairwise (fun x y => x.f0 < y.f0) ∧ ∀ x ∈ L, MayR x
theorem Good.nil : Good [] := ⟨List.Pairwise.nil, by simp⟩
def dropR (T : List S23) (k : Int) : List S23 × Int := if (findT T k).isSome then (dropT T k, 0) else (T, 15)
theorem dropT_split : ∀ (L : List S23) (j : Nat) (hj : j < L.length), L.Pairwise (fun x y => x.f0 < y.f0) → dropT L L[j].f0 = L.take j ++ L.drop (j + 1)
  | [], j, hj, _ => absurd hj (Nat.not_lt_zero _)
  | x :: L, 0, hj, hs => by
    obtain ⟨h1, h2⟩ := List.pairwise_cons.1 hs
    unfold dropT
    simp only [List.getElem_cons_zero, List.take_zero, List.nil_append, Nat.zero_add, List.drop_one, List.tail_cons]
    rw [List.filter_cons_of_neg (by simp)]
    refine List.filter_eq_self.2 fun y hy => ?_
    have := h1 y hy
    simp
    omega
  | x :: L, j + 1, hj, hs => by
    obtain ⟨h1, h2⟩ := List.pairwise_cons.1 hs
    have hj' : j < L.length := by simpa using hj
    have ih := dropT_split L j hj' h2
    unfold dropT at ih ⊢
    have := h1 L[j] (List.getElem_mem _)
    simp only [List.getElem_cons_succ, List.take_succ_cons, List.drop_succ_cons, List.cons_append]
    rw [List.filter_cons_of_pos (by simp; omega), ih]
theorem refDrop_f (L : List S23) (hs : L.Pairwise (fun x y => x.f0 < y.f0)) (hn : L.length ≤ 1000000) (q : Int) (k : Nat) (hk : L.length < k) :
    lighterref08_Drop.f k (L.map toP) q = some ((dropR L q).1.map toP, (dropR L q).2) := by
  unfold lighterref08_Drop.f dropR
  rcases find_f L q hn k hk with ⟨h1, h2⟩ | ⟨j, hj, h1, h2⟩
  · rw [h1]
    simp only [Option.bind_some]
    rw [if_pos (by omega), findT_not h2]
    rfl
  · rw [h1]
    have hf : findT L q = some L[j] := (find_iff (uniq_sorted hs)).2 ⟨List.getElem_mem _, h2⟩
    rw [hf]
    simp only [Option.bind_some, Option.isSome_some, if_true, succ_wrap hj hn, Int.toNat_natCast]
    have hl : (L.map toP).length = L.length := List.length_map _
    rw [if_neg (by omega), if_pos (by omega), if_pos (by omega), if_pos (by simp; omega), if_pos (by omega), if_pos (by omega), if_pos (by simp; omega)]
    rw [← h2, dropT_split L j hj hs]
    simp [List.map_take, List.map_drop]
theorem may_ref (x : S23) : lighterref08_May.f x.f0 x.f1 x.f2 = some (decide (MayR x)) := may_f x
theorem more_fuel {α : Type} {f : Nat → Option α} (hm : ∀ k, LeO (f k) (f (k + 1))) {k : Nat} {r : α} (h : f k = some r) : ∀ n, f (k + n) = some r
  | 0 => h
  | n + 1 => hm _ _ (more_fuel hm h n)
theorem refCount_k (l : List S66) (hl : l.length ≤ 1000) (hm : ∀ x ∈ l, MayE x) (k : Nat) (hk : 5000 ≤ k) : lighterref08_Count.f k l = some ((cntE [] l).map toP) := by
  have := more_fuel (f := fun k => lighterref08_Count.f k l) (fun k => lighterref08_Count.mono l k) (refCount_f l hl hm) (k - 5000)
  rwa [show 5000 + (k - 5000) = k by omega] at this
theorem cntE_len2 : ∀ (l : List S66) (T : List S23), (cntE T l).length ≤ T.length + l.length
  | [], T => by simp [cntE]
  | x :: l, T => by
    have := cntE_len2 l (addE T x)
    have := addE_len T x
    simp only [cntE, List.length_cons]
    omega
theorem cntE_sorted : ∀ (l : List S66) {T : List S23}, T.Pairwise (fun x y => x.f0 < y.f0) → (cntE T l).Pairwise (fun x y => x.f0 < y.f0)
  | [], T, h => h
  | x :: l, T, h => cntE_sorted l (addE_sorted h x)
theorem cntE_vals : ∀ (l : List S66) (hm : ∀ x ∈ l, MayE x) {T : List S23} {B : Int}, 0 ≤ B → T.Pairwise (fun x y => x.f0 < y.f0) → (∀ y ∈ T, 0 ≤ y.f1 ∧ y.f1 ≤ B ∧ y.f2 = y.f1) → ∀ y ∈ cntE T l, 0 ≤ y.f1 ∧ y.f1 ≤ B + 65536 * (l.length : Int) ∧ y.f2 = y.f1
  | [], _, T, B, hB, hs, h => by simpa [cntE] using h
  | x :: l, hm, T, B, hB, hs, h => by
    have h1 := addE_cnt hs (hm x List.mem_cons_self) hB h
    have h2 := cntE_vals l (fun y hy => hm y (List.mem_cons_of_mem _ hy)) (B := B + 65536) (by omega) (addE_sorted hs x) h1
    intro y hy
    have := h2 y hy
    simp only [List.length_cons]
    exact ⟨this.1, by omega, this.2.2⟩
theorem known_cons {T : List S23} {x : S23} {l : List S23} : Known T (x :: l) ↔ (findT T x.f0).isSome = true ∧ Known T l := List.forall_mem_cons
theorem chg_l2 (L a b : List S23) (hn : L.length ≤ 100000) (ha : a.length ≤ 1000) (hb : b.length ≤ 1000) (hL : Good L) (has : a.Pairwise (fun x y => x.f0 < y.f0)) (hbs : b.Pairwise (fun x y => x.f0 < y.f0)) (hav : ∀ y ∈ a, 0 ≤ y.f1 ∧ y.f1 ≤ 100000000 ∧ y.f2 = y.f1) (hbv : ∀ y ∈ b, 0 ≤ y.f1 ∧ y.f1 ≤ 100000000 ∧ y.f2 = y.f1) :
    ∀ m i, i ≤ L.length → L.length - i ≤ m → (∀ r ∈ L.take i, MayR ⟨r.f0, r.f1, r.f2 + (valT a r.f0 - valT b r.f0)⟩) → ∀ k, 2 * m + 2000 ≤ k →
    lighterref08_Change.l2 (k + 1) (L.map toP) (a.map toP) (b.map toP) (((L.take i).map fun r => (⟨r.f0, r.f1, r.f2 + (valT a r.f0 - valT b r.f0)⟩ : S23)).map toP) (i : Int) =
      some (if ∀ r ∈ L, MayR ⟨r.f0, r.f1, r.f2 + (valT a r.f0 - valT b r.f0)⟩ then ((L.map fun r => (⟨r.f0, r.f1, r.f2 + (valT a r.f0 - valT b r.f0)⟩ : S23)).map toP, 0) else (L.map toP, 31)) := by
    intro m
    induction m using Nat.strongRecOn with
    | _ m ih =>
    intro i hi hm hall k hk
    unfold lighterref08_Change.l2
    have hlen : (L.map toP).length = L.length := List.length_map _
    by_cases h : i < L.length
    · obtain ⟨q, rfl⟩ : ∃ q, m = q + 1 := ⟨m - 1, by omega⟩
      obtain ⟨k1, rfl⟩ : ∃ k1, k = k1 + 2 := ⟨k - 2, by omega⟩
      have hmr := hL.2 L[i] (List.getElem_mem _)
      obtain ⟨m1, m2, m3, m4, m5, m6⟩ := hmr
      rw [if_pos (by omega), if_pos (by omega), rd25_get h]
      obtain ⟨va1, va2⟩ := valT_bound (T := a) (B := 100000000) (fun y hy => ⟨(hav y hy).1, (hav y hy).2.1⟩) (by omega) L[i].f0
      obtain ⟨vb1, vb2⟩ := valT_bound (T := b) (B := 100000000) (fun y hy => ⟨(hbv y hy).1, (hbv y hy).2.1⟩) (by omega) L[i].f0
      have hj4 : lighterref08_Change.j4 (k1 + 2) (L.map toP) (a.map toP) (b.map toP) (((L.take i).map fun r => (⟨r.f0, r.f1, r.f2 + (valT a r.f0 - valT b r.f0)⟩ : S23)).map toP) (i : Int) L[i].f0 L[i].f1 (L[i].f2 + valT a L[i].f0) =
          some (if ∀ r ∈ L, MayR ⟨r.f0, r.f1, r.f2 + (valT a r.f0 - valT b r.f0)⟩ then ((L.map fun r => (⟨r.f0, r.f1, r.f2 + (valT a r.f0 - valT b r.f0)⟩ : S23)).map toP, 0) else (L.map toP, 31)) := by
        have hfin : ∀ v : Int, v = L[i].f2 + (valT a L[i].f0 - valT b L[i].f0) →
            ((lighterref08_May.f L[i].f0 L[i].f1 v).bind fun t => (if t = true then (if (((L.take i).map fun r => (⟨r.f0, r.f1, r.f2 + (valT a r.f0 - valT b r.f0)⟩ : S23)).map toP).length < 5864062014805 then (lighterref08_Change.l2 (k1 + 1) (L.map toP) (a.map toP) (b.map toP) ((((L.take i).map fun r => (⟨r.f0, r.f1, r.f2 + (valT a r.f0 - valT b r.f0)⟩ : S23)).map toP) ++ [(⟨L[i].f0, L[i].f1, v⟩ : S25)]) (wrap64 ((i : Int) + 1))) else none) else some (L.map toP, 31))) =
            some (if ∀ r ∈ L, MayR ⟨r.f0, r.f1, r.f2 + (valT a r.f0 - valT b r.f0)⟩ then ((L.map fun r => (⟨r.f0, r.f1, r.f2 + (valT a r.f0 - valT b r.f0)⟩ : S23)).map toP, 0) else (L.map toP, 31)) := by
          rintro v rfl
          have hmay := may_ref ⟨L[i].f0, L[i].f1, L[i].f2 + (valT a L[i].f0 - valT b L[i].f0)⟩
          simp only at hmay
          rw [hmay]
          simp only [Option.bind_some, decide_eq_true_eq]
          by_cases hc : MayR ⟨L[i].f0, L[i].f1, L[i].f2 + (valT a L[i].f0 - valT b L[i].f0)⟩
          · rw [if_pos hc, if_pos (by simp; omega), succ_wrap h (by omega)]
            have e : (((L.take i).map fun r => (⟨r.f0, r.f1, r.f2 + (valT a r.f0 - valT b r.f0)⟩ : S23)).map toP) ++ [(⟨L[i].f0, L[i].f1, L[i].f2 + (valT a L[i].f0 - valT b L[i].f0)⟩ : S25)] = (((L.take (i + 1)).map fun r => (⟨r.f0, r.f1, r.f2 + (valT a r.f0 - valT b r.f0)⟩ : S23)).map toP) := by
              rw [List.take_add_one, List.getElem?_eq_getElem h, List.map_append, List.map_append]
              rfl
            rw [e]
            refine ih q (by omega) (i + 1) h (by omega) (fun r hr => ?_) k1 (by omega)
            rw [List.take_add_one, List.getElem?_eq_getElem h] at hr
            rcases List.mem_append.1 hr with hr | hr
            · exact hall r hr
            · simp at hr
              rw [hr]
              exact hc
          · rw [if_neg hc, if_neg (fun hh => hc (hh _ (List.getElem_mem _)))]
        unfold lighterref08_Change.j4
        rcases find_f b L[i].f0 (by omega) (k1 + 1) (by omega) with ⟨h1, h2⟩ | ⟨j, hj, h1, h2⟩
        · rw [h1]
          simp only [Option.bind_some]
          rw [if_neg (by omega)]
          refine hfin _ ?_
          rw [val_none (findT_not h2)]
          omega
        · rw [h1]
          simp only [Option.bind_some]
          rw [if_pos (by omega), if_pos (by omega), if_pos (by simp; omega), rd25_get hj]
          have hv : valT b L[i].f0 = b[j].f1 := val_some ((find_iff (uniq_sorted hbs)).2 ⟨List.getElem_mem _, h2⟩)
          have hw : wrap64 (L[i].f2 + valT a L[i].f0 - (toP b[j]).f2) = L[i].f2 + (valT a L[i].f0 - valT b L[i].f0) := by
            have e3 : (toP b[j]).f2 = b[j].f1 := (hbv b[j] (List.getElem_mem _)).2.2
            rw [e3, hv]
            rw [hv] at vb1 vb2
            rw [wrap64_in _ (by omega)]
            omega
          rw [hw]
          exact hfin _ rfl
      rcases find_f a L[i].f0 (by omega) (k1 + 2) (by omega) with ⟨h1, h2⟩ | ⟨j, hj, h1, h2⟩
      · have e1 : lighterref08_Find.f (k1 + 2) (a.map toP) (toP L[i]).f0 = some (-1) := h1
        rw [e1]
        simp only [Option.bind_some]
        rw [if_neg (by omega)]
        have hv := val_none (findT_not h2)
        rw [hv, Int.add_zero] at hj4
        exact hj4
      · have e1 : lighterref08_Find.f (k1 + 2) (a.map toP) (toP L[i]).f0 = some (j : Int) := h1
        rw [e1]
        simp only [Option.bind_some]
        rw [if_pos (by omega), if_pos (by omega), if_pos (by simp; omega), rd25_get hj]
        have hv : valT a L[i].f0 = a[j].f1 := val_some ((find_iff (uniq_sorted has)).2 ⟨List.getElem_mem _, h2⟩)
        have hw : wrap64 ((toP L[i]).f2 + (toP a[j]).f2) = L[i].f2 + valT a L[i].f0 := by
          have e3 : (toP a[j]).f2 = a[j].f1 := (hav a[j] (List.getElem_mem _)).2.2
          have e4 : (toP L[i]).f2 = L[i].f2 := rfl
          rw [e3, e4, ← hv]
          rw [wrap64_in _ (by omega)]
        rw [hw]
        exact hj4
    · have e : i = L.length := by omega
      subst e
      rw [if_neg (by omega)]
      rw [List.take_length] at hall ⊢
      rw [if_pos hall]
theorem chg_l1 (L a b : List S23) (hn : L.length ≤ 100000) (hb : b.length ≤ 1000) (R : List S25 × Int) (F : Nat) (hF : 100001 ≤ F) (hR : ∀ k, F ≤ k → lighterref08_Change.l2 k (L.map toP) (a.map toP) (b.map toP) [] 0 = some R) :
    ∀ m i, i ≤ b.length → b.length - i ≤ m → ∀ k, F + m ≤ k → lighterref08_Change.l1 (k + 1) (L.map toP) (a.map toP) (b.map toP) (i : Int) = some (if Known L (b.drop i) then R else (L.map toP, 15)) := by
    intro m
    induction m using Nat.strongRecOn with
    | _ m ih =>
    intro i hi hm k hk
    unfold lighterref08_Change.l1
    by_cases h : i < b.length
    · obtain ⟨q, rfl⟩ : ∃ q, m = q + 1 := ⟨m - 1, by omega⟩
      obtain ⟨k1, rfl⟩ : ∃ k1, k = k1 + 1 := ⟨k - 1, by omega⟩
      rw [if_pos (by simp; omega), if_pos (by omega), rd25_get h]
      rw [List.drop_eq_getElem_cons h]
      rcases find_f L b[i].f0 (by omega) (k1 + 1) (by omega) with ⟨h1, h2⟩ | ⟨j, hj, h1, h2⟩
      · have e1 : lighterref08_Find.f (k1 + 1) (L.map toP) (toP b[i]).f0 = some (-1) := h1
        rw [e1, Option.bind_some]
        rw [if_pos (by omega), if_neg]
        rw [known_cons, findT_not h2]
        simp
      · have e1 : lighterref08_Find.f (k1 + 1) (L.map toP) (toP b[i]).f0 = some (j : Int) := h1
        rw [e1, Option.bind_some]
        rw [if_neg (by omega), succ_wrap h (by omega), ih q (by omega) (i + 1) h (by omega) k1 (by omega)]
        have hs : (findT L b[i].f0).isSome = true := by
          cases hf : findT L b[i].f0 with
          | none => exact absurd h2 (findT_none hf _ (List.getElem_mem _))
          | some y => rfl
        by_cases hkn : Known L (b.drop (i + 1))
        · rw [if_pos hkn, if_pos (known_cons.2 ⟨hs, hkn⟩)]
        · rw [if_neg hkn, if_neg (show ¬ Known L _ from fun h => hkn (known_cons.1 h).2)]
    · have e : i = b.length := by omega
      rw [if_neg (by simp; omega)]
      subst e
      rw [List.drop_length, if_pos (show Known L [] from fun x hx => by cases hx)]
      exact hR k (by omega)
theorem chg_l0 (L a b : List S23) (hn : L.length ≤ 100000) (ha : a.length ≤ 1000) (R : List S25 × Int) (F : Nat) (hF : 100001 ≤ F) (hR : ∀ k, F ≤ k → lighterref08_Change.l1 k (L.map toP) (a.map toP) (b.map toP) 0 = some R) :
    ∀ m i, i ≤ a.length → a.length - i ≤ m → ∀ k, F + m ≤ k → lighterref08_Change.l0 (k + 1) (L.map toP) (a.map toP) (b.map toP) (i : Int) = some (if Known L (a.drop i) then R else (L.map toP, 15)) := by
    intro m
    induction m using Nat.strongRecOn with
    | _ m ih =>
    intro i hi hm k hk
    unfold lighterref08_Change.l0
    by_cases h : i < a.length
    · obtain ⟨q, rfl⟩ : ∃ q, m = q + 1 := ⟨m - 1, by omega⟩
      obtain ⟨k1, rfl⟩ : ∃ k1, k = k1 + 1 := ⟨k - 1, by omega⟩
      rw [if_pos (by simp; omega), if_pos (by omega), rd25_get h]
      rw [List.drop_eq_getElem_cons h]
      rcases find_f L a[i].f0 (by omega) (k1 + 1) (by omega) with ⟨h1, h2⟩ | ⟨j, hj, h1, h2⟩
      · have e1 : lighterref08_Find.f (k1 + 1) (L.map toP) (toP a[i]).f0 = some (-1) := h1
        rw [e1, Option.bind_some]
        rw [if_pos (by omega), if_neg]
        rw [known_cons, findT_not h2]
        simp
      · have e1 : lighterref08_Find.f (k1 + 1) (L.map toP) (toP a[i]).f0 = some (j : Int) := h1
        rw [e1, Option.bind_some]
        rw [if_neg (by omega), succ_wrap h (by omega), ih q (by omega) (i + 1) h (by omega) k1 (by omega)]
        have hs : (findT L a[i].f0).isSome = true := by
          cases hf : findT L a[i].f0 with
          | none => exact absurd h2 (findT_none hf _ (List.getElem_mem _))
          | some y => rfl
        by_cases hkn : Known L (a.drop (i + 1))
        · rw [if_pos hkn, if_pos (known_cons.2 ⟨hs, hkn⟩)]
        · rw [if_neg hkn, if_neg (show ¬ Known L _ from fun h => hkn (known_cons.1 h).2)]
    · have e : i = a.length := by omega
      rw [if_neg (by simp; omega)]
      subst e
      rw [List.drop_length, if_pos (show Known L [] from fun x hx => by cases hx)]
      exact hR k (by omega)
theorem refChange_f (L : List S23) (hn : L.length ≤ 100000) (hL : Good L) (more less : List S66) (h1 : more.length ≤ 1000) (h2 : less.length ≤ 1000) (K : Nat) (hK : 1000000 ≤ K) :
    lighterref08_Change.f K (L.map toP) more less = some ((chgR L more less).1.map toP, (chgR L more less).2) := by
  obtain ⟨k, rfl⟩ : ∃ k, K = k + 1 := ⟨K - 1, by omega⟩
  unfold lighterref08_Change.f chgR
  rw [refAll_f more (by omega) (k + 1) (by omega)]
  simp only [Option.bind_some]
  by_cases hm : ∀ x ∈ more, MayE x
  · rw [if_pos (by simpa using hm), refAll_f less (by omega) (k + 1) (by omega)]
    simp only [Option.bind_some]
    by_cases hl : ∀ x ∈ less, MayE x
    · rw [if_pos ⟨hm, hl⟩]
      rw [decide_eq_true hl, lighterref08_Change.j0, if_neg (by simp), refCount_k more h1 hm k (by omega), refCount_k less h2 hl k (by omega)]
      simp only [Option.bind_some]
      have a1 := cntE_len2 more []
      have b1 := cntE_len2 less []
      have a2 := cntE_sorted more (T := []) List.Pairwise.nil
      have b2 := cntE_sorted less (T := []) List.Pairwise.nil
      have a3 := cntE_vals more hm (T := []) (B := 0) (by omega) List.Pairwise.nil (by simp)
      have b3 := cntE_vals less hl (T := []) (B := 0) (by omega) List.Pairwise.nil (by simp)
      simp only [List.length_nil, Nat.zero_add] at a1 b1
      unfold chgT
      generalize cntE [] more = a at a1 a2 a3
      generalize cntE [] less = b at b1 b2 b3
      have hl2 : ∀ k, 203000 ≤ k → lighterref08_Change.l2 k (L.map toP) (a.map toP) (b.map toP) [] 0 = some (if ∀ r ∈ L, MayR ⟨r.f0, r.f1, r.f2 + (valT a r.f0 - valT b r.f0)⟩ then ((L.map fun r => (⟨r.f0, r.f1, r.f2 + (valT a r.f0 - valT b r.f0)⟩ : S23)).map toP, 0) else (L.map toP, 31)) := fun k hk => by
        obtain ⟨k', rfl⟩ : ∃ k', k = k' + 1 := ⟨k - 1, by omega⟩
        have := chg_l2 L a b hn (by omega) (by omega) hL a2 b2 (fun y hy => by have := a3 y hy; exact ⟨this.1, by omega, this.2.2⟩) (fun y hy => by have := b3 y hy; exact ⟨this.1, by omega, this.2.2⟩) L.length 0 (by omega) (by omega) (by simp) k' (by omega)
        simpa using this
      have hl1 : ∀ k, 205000 ≤ k → lighterref08_Change.l1 k (L.map toP) (a.map toP) (b.map toP) 0 = some (if Known L b then (if ∀ r ∈ L, MayR ⟨r.f0, r.f1, r.f2 + (valT a r.f0 - valT b r.f0)⟩ then ((L.map fun r => (⟨r.f0, r.f1, r.f2 + (valT a r.f0 - valT b r.f0)⟩ : S23)).map toP, 0) else (L.map toP, 31)) else (L.map toP, 15)) := fun k hk => by
        obtain ⟨k', rfl⟩ : ∃ k', k = k' + 1 := ⟨k - 1, by omega⟩
        have := chg_l1 L a b hn (by omega) _ 203000 (by omega) hl2 b.length 0 (by omega) (by omega) k' (by omega)
        rw [List.drop_zero] at this
        exact this
      obtain ⟨k', rfl⟩ : ∃ k', k = k' + 1 := ⟨k - 1, by omega⟩
      have := chg_l0 L a b hn (by omega) _ 205000 (by omega) hl1 a.length 0 (by omega) (by omega) k' (by omega)
      rw [List.drop_zero] at this
      refine this.trans ?_
      have hiff : (∀ r ∈ L.map (fun r => (⟨r.f0, r.f1, r.f2 + (valT a r.f0 - valT b r.f0)⟩ : S23)), MayR r) ↔ ∀ r ∈ L, MayR ⟨r.f0, r.f1, r.f2 + (valT a r.f0 - valT b r.f0)⟩ := List.forall_mem_map
      by_cases ka : Known L a
      · by_cases kb : Known L b
        · rw [if_pos ka, if_pos kb, if_pos (show Known L a ∧ Known L b from ⟨ka, kb⟩)]
          by_cases hc : ∀ r ∈ L, MayR ⟨r.f0, r.f1, r.f2 + (valT a r.f0 - valT b r.f0)⟩
          · rw [if_pos hc, if_pos (hiff.2 hc)]
          · rw [if_neg hc, if_neg (fun h => hc (hiff.1 h))]
        · rw [if_pos ka, if_neg kb, if_neg (show ¬ (Known L a ∧ Known L b) from fun h => kb h.2)]
      · rw [if_neg ka, if_neg (show ¬ (Known L a ∧ Known L b) from fun h => ka h.1)]
    · rw [if_neg (fun h => hl h.2)]
      rw [decide_eq_false hl, lighterref08_Change.j0]
      rfl
  · rw [if_neg (by simpa using hm), if_neg (fun h => hm h.1)]
    rw [lighterref08_Change.j0]
    rfl
end Go.Proofs.Ytcjeegomonegpaa.PLivePlays
namespace Go.Proofs.Ytcjeegomonegpaa.PLivePlays
open Go.RowKit Go.Maps Go.Sort Go.Proofs.YtcjeegomonegpaaW.PrintWords Go.Proofs.YtcjeegomonegpaaW.PrintLast Go.Proofs.YtcjeegomonegpaaW.PrintMore
set_option linter.unusedVariables false
set_option linter.unusedSimpArgs false
def lessT (y x : S23) : Prop := y.f2 * x.f1 < x.f2 * y.f1 ∨ (y.f2 * x.f1 = x.f2 * y.f1 ∧ y.f0 < x.f0)
instance (y x : S23) : Decidable (lessT y x) := by unfold lessT; infer_instance
def insV (x : S23) : List S23 → List S23
  | [] => [x]
  | y :: l => if lessT y x then y :: insV x l else x :: y :: l
def vicT (pct : Int) : List S23 → List S23 → List S23
  | acc, [] => acc
  | acc, x :: l => if dead pct x then vicT pct acc l else vicT pct (insV x acc) l
theorem insV_split (x : S23) : ∀ (l : List S23) (j : Nat), j ≤ l.length → (∀ i (h : i < l.length), i < j → lessT l[i] x) → (∀ h : j < l.length, ¬ lessT l[j] x) → insV x l = l.take j ++ x :: l.drop j
  | [], j, hj, _, _ => by
    have : j = 0 := by simpa using hj
    subst this
    rfl
  | y :: l, 0, _, _, h2 => by
    have := h2 (by simp)
    simp only [List.getElem_cons_zero] at this
    rw [insV, if_neg this]
    rfl
  | y :: l, j + 1, hj, h1, h2 => by
    have hy := h1 0 (by simp) (by omega)
    simp only [List.getElem_cons_zero] at hy
    rw [insV, if_pos hy, insV_split x l j (by simpa using hj) (fun i h hi => by have := h1 (i + 1) (by simpa using h) (by omega); simpa using this) (fun h => by have := h2 (by simpa using h); simpa using this)]
    rfl
theorem insV_perm (x : S23) : ∀ l : List S23, (insV x l).Perm (x :: l)
  | [] => List.Perm.refl _
  | y :: l => by
    rw [insV]
    split
    · exact (List.Perm.cons y (insV_perm x l)).trans (List.Perm.swap x y l)
    · exact List.Perm.refl _
theorem prod_in {a b : Int} (h1 : 0 ≤ a) (h2 : a ≤ 65536) (h3 : 0 ≤ b) (h4 : b ≤ 65536) : 0 ≤ a * b ∧ a * b ≤ 4294967296 := by
  have e1 := Int.mul_nonneg h1 h3
  have e2 : a * b ≤ 65536 * 65536 := Int.mul_le_mul h2 h4 h3 (by omega)
  omega
theorem less_ref {y x : S23} (hy : MayR y) (hx : MayR x) : lighterref08_less.f y.f0 y.f1 y.f2 x.f0 x.f1 x.f2 = some (decide (lessT y x)) := by
  obtain ⟨-, -, y1, y2, y3, y4⟩ := hy
  obtain ⟨-, -, x1, x2, x3, x4⟩ := hx
  have p1 := prod_in y3 (by omega) x1 x2
  have p2 := prod_in x3 (by omega) y1 y2
  unfold lighterref08_less.f lessT
  rw [wrap64_in _ (by omega), wrap64_in _ (by omega)]
  by_cases h1 : y.f2 * x.f1 < x.f2 * y.f1
  · simp [h1]
  · by_cases h2 : y.f2 * x.f1 = x.f2 * y.f1
    · simp [h2]
    · simp [h1, h2]
theorem vic_l2 (out : List S23) (hn : out.length ≤ 100000) : ∀ m i, i ≤ out.length → out.length - i ≤ m → ∀ k, m ≤ k → lighterref08_Victims.l2 (k + 1) (out.map toP) ((out.take i).map (·.f0)) (i : Int) = some (out.map (·.f0)) := by
  intro m
  induction m with
  | zero =>
    intro i hi hm k hk
    have e : i = out.length := by omega
    subst e
    unfold lighterref08_Victims.l2
    rw [if_neg (by simp), List.take_length]
  | succ m ih =>
    intro i hi hm k hk
    unfold lighterref08_Victims.l2
    by_cases h : i < out.length
    · obtain ⟨k1, rfl⟩ : ∃ k1, k = k1 + 1 := ⟨k - 1, by omega⟩
      rw [if_pos (by simp; omega), if_pos (by omega), if_pos (by simp; omega), rd25_get h, succ_wrap h (by omega)]
      have e : (out.take i).map (·.f0) ++ [(toP out[i]).f0] = (out.take (i + 1)).map (·.f0) := by
        rw [List.take_add_one, List.getElem?_eq_getElem h, List.map_append]
        rfl
      rw [e]
      exact ih (i + 1) h (by omega) k1 (by omega)
    · have e : i = out.length := by omega
      subst e
      rw [if_neg (by simp), List.take_length]
theorem vic_l1 (L acc : List S23) (pct : Int) (i : Nat) (hi : i < L.length) (hn : L.length ≤ 100000) (ha : acc.length ≤ 100000) (hx : MayR L[i]) (hacc : ∀ y ∈ acc, MayR y) (R : List Int) (F : Nat) (hR : ∀ k, F ≤ k → lighterref08_Victims.l0 k (L.map toP) pct ((insV L[i] acc).map toP) ((i + 1 : Nat) : Int) = some R) :
    ∀ m j, j ≤ acc.length → acc.length - j ≤ m → (∀ t (h : t < acc.length), t < j → lessT acc[t] L[i]) → ∀ k, F + m ≤ k → lighterref08_Victims.l1 (k + 1) (L.map toP) pct (acc.map toP) (i : Int) ((acc.take j).map toP) (j : Int) = some R := by
  have hfin : ∀ j, j ≤ acc.length → (∀ t (h : t < acc.length), t < j → lessT acc[t] L[i]) → (∀ h : j < acc.length, ¬ lessT acc[j] L[i]) → ((acc.take j).map toP ++ [(⟨(toP L[i]).f0, (toP L[i]).f1, (toP L[i]).f2⟩ : S25)]) ++ (acc.map toP).drop j = (insV L[i] acc).map toP := fun j h1 h2 h3 => by
    rw [insV_split _ _ j h1 h2 h3]
    simp [toP]
  intro m
  induction m with
  | zero =>
    intro j hj hm hb k hk
    have e : j = acc.length := by omega
    subst e
    unfold lighterref08_Victims.l1
    rw [if_neg (by simp), if_pos (by omega), if_pos (by simp; omega), if_pos (by simp; omega), rd25_get hi, Option.bind_some, if_pos (by omega), if_pos (by simp), Option.bind_some, Int.toNat_natCast, if_pos (by simp; omega), hfin _ (Nat.le_refl _) hb (fun h => absurd h (Nat.lt_irrefl _)), succ_wrap hi (by omega)]
    exact hR k (by omega)
  | succ m ih =>
    intro j hj hm hb k hk
    unfold lighterref08_Victims.l1
    by_cases h : j < acc.length
    · obtain ⟨k1, rfl⟩ : ∃ k1, k = k1 + 1 := ⟨k - 1, by omega⟩
      rw [if_pos (by simp; omega), if_pos (by omega), if_pos (by omega), if_pos (by simp; omega), rd25_get h, rd25_get hi]
      have hl := less_ref (hacc acc[j] (List.getElem_mem _)) hx
      rw [show lighterref08_less.f (toP acc[j]).f0 (toP acc[j]).f1 (toP acc[j]).f2 (toP L[i]).f0 (toP L[i]).f1 (toP L[i]).f2 = some (decide (lessT acc[j] L[i])) from hl, Option.bind_some]
      by_cases hc : lessT acc[j] L[i]
      · rw [decide_eq_true hc, if_pos rfl, if_pos (by simp; omega), succ_wrap h (by omega)]
        have e : (acc.take j).map toP ++ [(⟨(toP acc[j]).f0, (toP acc[j]).f1, (toP acc[j]).f2⟩ : S25)] = (acc.take (j + 1)).map toP := by
          rw [List.take_add_one, List.getElem?_eq_getElem h, List.map_append]
          rfl
        rw [e]
        refine ih (j + 1) h (by omega) (fun t ht htj => ?_) k1 (by omega)
        by_cases e2 : t = j
        · subst e2
          exact hc
        · exact hb t ht (by omega)
      · rw [decide_eq_false hc, if_neg (by simp), if_pos (by simp; omega), Option.bind_some, if_pos (by simp; omega), Option.bind_some, Int.toNat_natCast, if_pos (by simp; omega), hfin j hj hb (fun _ => hc), succ_wrap hi (by omega)]
        exact hR _ (by omega)
    · have e : j = acc.length := by omega
      subst e
      rw [if_neg (by simp), if_pos (by omega), if_pos (by simp; omega), if_pos (by simp; omega), rd25_get hi, Option.bind_some, if_pos (by omega), if_pos (by simp), Option.bind_some, Int.toNat_natCast, if_pos (by simp; omega), hfin _ (Nat.le_refl _) hb (fun h => absurd h (Nat.lt_irrefl _)), succ_wrap hi (by omega)]
      exact hR k (by omega)
theorem vic_l0 (L : List S23) (pct : Int) (hn : L.length ≤ 1000) (hL : ∀ x ∈ L, MayR x) : ∀ m i, i ≤ L.length → L.length - i ≤ m → ∀ acc : List S23, acc.length ≤ i → (∀ y ∈ acc, MayR y) → ∀ k, 2000 * m + 3000 ≤ k →
    lighterref08_Victims.l0 (k + 1) (L.map toP) pct (acc.map toP) (i : Int) = some ((vicT pct acc (L.drop i)).map (·.f0)) := by
  intro m
  induction m with
  | zero =>
    intro i hi hm acc ha hacc k hk
    have e : i = L.length := by omega
    subst e
    unfold lighterref08_Victims.l0
    obtain ⟨k1, rfl⟩ : ∃ k1, k = k1 + 1 := ⟨k - 1, by omega⟩
    rw [if_neg (by simp), List.drop_length]
    have := vic_l2 acc (by omega) acc.length 0 (by omega) (by omega) k1 (by omega)
    simpa [vicT] using this
  | succ m ih =>
    intro i hi hm acc ha hacc k hk
    unfold lighterref08_Victims.l0
    obtain ⟨k1, rfl⟩ : ∃ k1, k = k1 + 1 := ⟨k - 1, by omega⟩
    by_cases h : i < L.length
    · rw [if_pos (by simp; omega), if_pos (by omega), rd25_get h, List.drop_eq_getElem_cons h, vicT]
      have hx := hL L[i] (List.getElem_mem _)
      by_cases hd : wrap64 (L[i].f2 * 100) ≥ wrap64 (pct * L[i].f1)
      · rw [if_pos (show wrap64 ((toP L[i]).f2 * 100) ≥ wrap64 (pct * (toP L[i]).f1) from hd), if_pos (show dead pct L[i] = true from decide_eq_true hd), succ_wrap h (by omega)]
        exact ih (i + 1) h (by omega) acc (by omega) hacc k1 (by omega)
      · rw [if_neg (show ¬ wrap64 ((toP L[i]).f2 * 100) ≥ wrap64 (pct * (toP L[i]).f1) from hd), if_neg (show ¬ dead pct L[i] = true by unfold dead; simpa using hd)]
        have hlen : (insV L[i] acc).length = acc.length + 1 := (insV_perm _ _).length_eq
        have hmay : ∀ y ∈ insV L[i] acc, MayR y := fun y hy => by
          rcases List.mem_cons.1 ((insV_perm _ _).subset hy) with rfl | hy
          · exact hx
          · exact hacc y hy
        have := vic_l1 L acc pct i h (by omega) (by omega) hx hacc ((vicT pct (insV L[i] acc) (L.drop (i + 1))).map (·.f0)) (2000 * m + 3001) (fun k2 hk2 => by
          obtain ⟨k3, rfl⟩ : ∃ k3, k2 = k3 + 1 := ⟨k2 - 1, by omega⟩
          exact ih (i + 1) h (by omega) (insV L[i] acc) (by omega) hmay k3 (by omega)) acc.length 0 (by omega) (by omega) (fun t _ ht => absurd ht (Nat.not_lt_zero _)) k1 (by omega)
        rw [List.take_zero] at this
        exact this
    · have e : i = L.length := by omega
      subst e
      rw [if_neg (by simp), List.drop_length]
      have := vic_l2 acc (by omega) acc.length 0 (by omega) (by omega) k1 (by omega)
      simpa [vicT] using this
theorem refVictims_f (L : List S23) (pct : Int) (hn : L.length ≤ 1000) (hL : ∀ x ∈ L, MayR x) (K : Nat) (hK : 2100000 ≤ K) : lighterref08_Victims.f K (L.map toP) pct = some ((vicT pct [] L).map (·.f0)) := by
  obtain ⟨k, rfl⟩ : ∃ k, K = k + 1 := ⟨K - 1, by omega⟩
  have := vic_l0 L pct hn hL L.length 0 (by omega) (by omega) [] (by simp) (by simp) k (by omega)
  rw [List.drop_zero] at this
  exact this
theorem vicT_perm (pct : Int) : ∀ (L acc : List S23), (vicT pct acc L).Perm (acc ++ keepV pct L)
  | [], acc => by simp [vicT, keepV]
  | x :: L, acc => by
    rw [vicT]
    by_cases hd : dead pct x = true
    · rw [if_pos hd]
      have : keepV pct (x :: L) = keepV pct L := by unfold keepV; rw [List.filter_cons_of_neg (by simp [hd])]
      rw [this]
      exact vicT_perm pct L acc
    · rw [if_neg hd]
      have : keepV pct (x :: L) = x :: keepV pct L := by unfold keepV; rw [List.filter_cons_of_pos (by simpa using hd)]
      rw [this]
      refine (vicT_perm pct L (insV x acc)).trans ?_
      refine (List.Perm.append_right _ (insV_perm x acc)).trans ?_
      exact List.perm_middle.symm
theorem lessT_trans {x y z : S23} (hx : 0 < x.f1) (hy : 0 < y.f1) (hz : 0 < z.f1) (h1 : lessT x y) (h2 : lessT y z) : lessT x z := by
  have key : ∀ {p q r : S23}, p.f2 * q.f1 * r.f1 = p.f2 * r.f1 * q.f1 := fun {p q r} => by ac_rfl
  unfold lessT at *
  rcases h1 with h1 | ⟨h1, h1'⟩ <;> rcases h2 with h2 | ⟨h2, h2'⟩
  · exact .inl (ltP_trans hx hy hz h1 h2)
  · refine .inl ?_
    have a1 := Int.mul_lt_mul_of_pos_right h1 hz
    have a2 : y.f2 * z.f1 * x.f1 = z.f2 * y.f1 * x.f1 := by rw [h2]
    have e1 : y.f2 * x.f1 * z.f1 = y.f2 * z.f1 * x.f1 := by ac_rfl
    have e2 : x.f2 * y.f1 * z.f1 = x.f2 * z.f1 * y.f1 := by ac_rfl
    have e3 : z.f2 * y.f1 * x.f1 = z.f2 * x.f1 * y.f1 := by ac_rfl
    exact Int.lt_of_mul_lt_mul_right (a := y.f1) (by omega) (by omega)
  · refine .inl ?_
    have a1 := Int.mul_lt_mul_of_pos_right h2 hx
    have a2 : x.f2 * y.f1 * z.f1 = y.f2 * x.f1 * z.f1 := by rw [h1]
    have e1 : y.f2 * x.f1 * z.f1 = y.f2 * z.f1 * x.f1 := by ac_rfl
    have e2 : x.f2 * y.f1 * z.f1 = x.f2 * z.f1 * y.f1 := by ac_rfl
    have e3 : z.f2 * y.f1 * x.f1 = z.f2 * x.f1 * y.f1 := by ac_rfl
    exact Int.lt_of_mul_lt_mul_right (a := y.f1) (by omega) (by omega)
  · refine .inr ⟨?_, by omega⟩
    have a1 : x.f2 * y.f1 * z.f1 = y.f2 * x.f1 * z.f1 := by rw [h1]
    have a2 : y.f2 * z.f1 * x.f1 = z.f2 * y.f1 * x.f1 := by rw [h2]
    have e1 : y.f2 * x.f1 * z.f1 = y.f2 * z.f1 * x.f1 := by ac_rfl
    have e2 : x.f2 * y.f1 * z.f1 = x.f2 * z.f1 * y.f1 := by ac_rfl
    have e3 : z.f2 * y.f1 * x.f1 = z.f2 * x.f1 * y.f1 := by ac_rfl
    exact Int.eq_of_mul_eq_mul_right (a := y.f1) (by omega) (by omega)
theorem lessT_total {x y : S23} (hne : x.f0 ≠ y.f0) (h : ¬ lessT y x) : lessT x y := by
  unfold lessT at *
  rcases Int.lt_trichotomy (x.f2 * y.f1) (y.f2 * x.f1) with h1 | h1 | h1
  · exact .inl h1
  · rcases Int.lt_trichotomy x.f0 y.f0 with h2 | h2 | h2
    · exact .inr ⟨h1, h2⟩
    · exact absurd h2 hne
    · exact absurd (.inr ⟨h1.symm, h2⟩) h
  · exact absurd (.inl h1) h
theorem lessT_asymm {x y : S23} (h : lessT x y) : ¬ lessT y x := by
  unfold lessT at *
  omega
theorem insV_sorted (x : S23) : ∀ l : List S23, l.Pairwise lessT → (∀ y ∈ l, 0 < y.f1) → 0 < x.f1 → (∀ y ∈ l, y.f0 ≠ x.f0) → (insV x l).Pairwise lessT
  | [], _, _, _, _ => by simp [insV]
  | y :: l, hs, hp, hx, hne => by
    obtain ⟨h1, h2⟩ := List.pairwise_cons.1 hs
    rw [insV]
    split
    · rename_i hc
      refine List.pairwise_cons.2 ⟨fun z hz => ?_, insV_sorted x l h2 (fun z hz => hp z (List.mem_cons_of_mem _ hz)) hx (fun z hz => hne z (List.mem_cons_of_mem _ hz))⟩
      rcases List.mem_cons.1 ((insV_perm x l).subset hz) with rfl | hz
      · exact hc
      · exact h1 z hz
    · rename_i hc
      have hxy : lessT x y := lessT_total (fun e => hne y List.mem_cons_self e.symm) hc
      refine List.pairwise_cons.2 ⟨fun z hz => ?_, hs⟩
      rcases List.mem_cons.1 hz with rfl | hz
      · exact hxy
      · exact lessT_trans hx (hp y List.mem_cons_self) (hp z (List.mem_cons_of_mem _ hz)) hxy (h1 z hz)
theorem vicT_sorted (pct : Int) : ∀ (L acc : List S23), acc.Pairwise lessT → (∀ y ∈ acc, 0 < y.f1) → (∀ y ∈ keepV pct L, 0 < y.f1) → (∀ x ∈ L, ∀ y ∈ acc, y.f0 ≠ x.f0) → L.Pairwise (fun x y => x.f0 < y.f0) → (vicT pct acc L).Pairwise lessT
  | [], acc, h, _, _, _, _ => h
  | x :: L, acc, h, hp, hk, hne, hs => by
    obtain ⟨h1, h2⟩ := List.pairwise_cons.1 hs
    rw [vicT]
    by_cases hd : dead pct x = true
    · rw [if_pos hd]
      have e : keepV pct (x :: L) = keepV pct L := by unfold keepV; rw [List.filter_cons_of_neg (by simp [hd])]
      rw [e] at hk
      exact vicT_sorted pct L acc h hp hk (fun z hz => hne z (List.mem_cons_of_mem _ hz)) h2
    · rw [if_neg hd]
      have e : keepV pct (x :: L) = x :: keepV pct L := by unfold keepV; rw [List.filter_cons_of_pos (by simpa using hd)]
      rw [e] at hk
      have hx := hk x List.mem_cons_self
      refine vicT_sorted pct L (insV x acc) (insV_sorted x acc h hp hx (hne x List.mem_cons_self)) (fun y hy => ?_) (fun y hy => hk y (List.mem_cons_of_mem _ hy)) (fun z hz y hy => ?_) h2
      · rcases List.mem_cons.1 ((insV_perm x acc).subset hy) with rfl | hy
        · exact hx
        · exact hp y hy
      · rcases List.mem_cons.1 ((insV_perm x acc).subset hy) with rfl | hy
        · have := h1 z hz
          omega
        · exact hne z (List.mem_cons_of_mem _ hz) y hy
theorem perm_eq {R : S23 → S23 → Prop} (hR : ∀ x y, R x y → ¬ R y x) : ∀ {l T : List S23}, l.Perm T → l.Pairwise R → T.Pairwise R → l = T
  | [], T, hp, _, _ => by rw [hp.nil_eq]
  | a :: l, [], hp, _, _ => absurd hp.eq_nil (by simp)
  | a :: l, b :: T, hp, h1, h2 => by
    obtain ⟨q1, q2⟩ := List.pairwise_cons.1 h1
    obtain ⟨r1, r2⟩ := List.pairwise_cons.1 h2
    have hab : a = b := by
      rcases List.mem_cons.1 (hp.subset (List.mem_cons_self (a := a) (l := l))) with e | e
      · exact e
      · rcases List.mem_cons.1 (hp.symm.subset (List.mem_cons_self (a := b) (l := T))) with e' | e'
        · exact e'.symm
        · exact absurd (q1 b e') (hR _ _ (r1 a e))
    subst hab
    rw [perm_eq hR (List.perm_cons a |>.1 hp) q2 r2]
theorem lt2_full {x y : S23} (hx : Full x) (hy : Full y) : lt2 x y = decide (lessT x y) := by
  unfold lt2
  rw [ltQ, ltQ, fixR_of hx, fixR_of hy]
  rw [Bool.eq_iff_iff]
  simp only [Bool.or_eq_true, Bool.and_eq_true, Bool.not_eq_true', decide_eq_true_eq, decide_eq_false_iff_not]
  unfold ltP lessT
  omega
theorem victims_same {pct : Int} (hp : -1000000 ≤ pct ∧ pct ≤ 1000000) {T l : List S23} (hT : Good T) (h1 : l.Perm (keepV pct T)) (h2 : l.Pairwise (fun x y => lt2 y x = false)) : l = vicT pct [] T := by
  have hfull := keepV_full hp hT.2
  have hlf : ∀ x ∈ l, Full x := fun x hx => hfull x (h1.subset hx)
  have hsub := hT.1.filter (fun x => !dead pct x)
  refine perm_eq (fun x y => lessT_asymm) (h1.trans ?_) ?_ (vicT_sorted pct T [] List.Pairwise.nil (by simp) (fun y hy => (hfull y hy).2) (by simp) hT.1)
  · exact (vicT_perm pct T []).symm
  · have hne : l.Pairwise (fun x y => x.f0 ≠ y.f0) := (h1.pairwise_iff (fun {_ _} h => Ne.symm h)).2 (hsub.imp (fun h => by omega))
    have h3 : l.Pairwise (fun x y => lt2 y x = false ∧ x.f0 ≠ y.f0) := List.Pairwise.imp₂ (fun _ _ a b => ⟨a, b⟩) h2 hne
    refine List.Pairwise.imp_of_mem (fun {x y} hx hy h => ?_) h3
    refine lessT_total h.2 ?_
    have := h.1
    rw [lt2_full (hlf y hy) (hlf x hx)] at this
    exact of_decide_eq_false this
theorem ints_l0 (l : List Int) (hn : l.length ≤ 1000000) : ∀ m i, i ≤ l.length → l.length - i ≤ m → ∀ k, m ≤ k → lighterlaw08_ints.l0 (k + 1) l l (i : Int) = some true := by
  intro m
  induction m with
  | zero =>
    intro i hi hm k hk
    unfold lighterlaw08_ints.l0
    rw [if_neg (by omega)]
  | succ m ih =>
    intro i hi hm k hk
    unfold lighterlaw08_ints.l0
    by_cases h : i < l.length
    · obtain ⟨k1, rfl⟩ : ∃ k1, k = k1 + 1 := ⟨k - 1, by omega⟩
      rw [if_pos (by omega), if_pos (by omega), if_pos (by omega), if_pos rfl, succ_wrap h hn]
      exact ih (i + 1) h (by omega) k1 (by omega)
    · rw [if_neg (by omega)]
theorem ints_same (l : List Int) (hn : l.length ≤ 1000000) (k : Nat) (hk : l.length < k) : lighterlaw08_ints.f k l l = some true := by
  unfold lighterlaw08_ints.f
  rw [if_pos rfl]
  obtain ⟨k1, rfl⟩ : ∃ k1, k = k1 + 1 := ⟨k - 1, by omega⟩
  exact ints_l0 l hn l.length 0 (by omega) (by omega) k1 (by omega)
theorem ints_tot (a b : List Int) (hn : a.length ≤ 1000000) (hab : a.length = b.length) : ∀ m i, i ≤ a.length → a.length - i ≤ m → ∀ k, m ≤ k → ∃ r, lighterlaw08_ints.l0 (k + 1) a b (i : Int) = some r := by
  intro m
  induction m with
  | zero =>
    intro i hi hm k hk
    unfold lighterlaw08_ints.l0
    rw [if_neg (by omega)]
    exact ⟨_, rfl⟩
  | succ m ih =>
    intro i hi hm k hk
    unfold lighterlaw08_ints.l0
    by_cases h : i < a.length
    · obtain ⟨k1, rfl⟩ : ∃ k1, k = k1 + 1 := ⟨k - 1, by omega⟩
      rw [if_pos (by omega), if_pos (by omega), if_pos (by omega)]
      split
      · rw [succ_wrap h hn]
        exact ih (i + 1) h (by omega) k1 (by omega)
      · exact ⟨_, rfl⟩
    · rw [if_neg (by omega)]
      exact ⟨_, rfl⟩
theorem ints_some (a b : List Int) (hn : a.length ≤ 1000000) (k : Nat) (hk : a.length < k) : ∃ r, lighterlaw08_ints.f k a b = some r := by
  unfold lighterlaw08_ints.f
  split
  · rename_i h
    obtain ⟨k1, rfl⟩ : ∃ k1, k = k1 + 1 := ⟨k - 1, by omega⟩
    exact ints_tot a b hn (by omega) a.length 0 (by omega) (by omega) k1 (by omega)
  · exact ⟨_, rfl⟩
end Go.Proofs.Ytcjeegomonegpaa.PLivePlays
namespace Go.Proofs.Ytcjeegomonegpaa.PLivePlays
open Go.RowKit Go.Maps Go.Sort Go.Proofs.YtcjeegomonegpaaW.PrintWords Go.Proofs.YtcjeegomonegpaaW.PrintLast Go.Proofs.YtcjeegomonegpaaW.PrintMore
set_option linter.unusedVariables false
set_option linter.unusedSimpArgs false
def RefV (w : World) (B : Nat) (v : Value) (L : List S23) : Prop := Kd.R k25 25 w B (fun k => some k = v.ownBlock) v (L.map toP)
theorem RefV.nil (w : World) (B : Nat) : RefV w B (.slice none 0 0) [] := Kd.R_nil _ _ _ _ _
theorem RefV.of {w : World} {B B' : Nat} {ok : Nat → Prop} {v : Value} {L : List S23} (h : Kd.R k25 25 w B' ok v (L.map toP)) (hB : B ≤ B') : RefV w B v L := Kd.R_tight rfl (Kd.R_lower h hB)
theorem RefV.move {w w' : World} {B : Nat} {v : Value} {L : List S23} (h : RefV w B v L) (hm : ∀ k, v.ownBlock = some k → w'.heap[k]? = w.heap[k]?) : RefV w' B v L := Kd.R_move h (fun k hk => hm k hk.symm)
theorem RefV.lt {w : World} {B : Nat} {v : Value} {L : List S23} (h : RefV w B v L) : ∀ k, v.ownBlock = some k → k < w.heap.size := Kd.R_lt h
theorem RefV.base {w : World} {B : Nat} {v : Value} {L : List S23} (h : RefV w B v L) : ∀ k, v.ownBlock = some k → B ≤ k := Kd.R_base h
theorem RefV.below {w w' : World} {B : Nat} {v : Value} {L : List S23} (h : RefV w B v L) (hb : Below w.heap.size w w') : RefV w' B v L := h.move fun k hk => hb.block k (h.lt k hk)
theorem RefV.reads {w : World} {B : Nat} {v : Value} {L : List S23} (h : RefV w B v L) : ∃ A c, v = .slice A L.length c ∧ L.length ≤ c ∧ Kd.C k25 w A L.length (L.map toP) := by
  obtain ⟨A, c, e, h1, h2⟩ := Kd.R_reads h
  rw [List.length_map] at e h1 h2
  exact ⟨A, c, e, h1, h2⟩
theorem Good.put {L : List S23} {x : S23} (h : Good L) (hx : MayR x) : Good (putT x L) := ⟨putT_sorted h.1, fun y hy => by
  rcases (mem_putT h.1).1 hy with rfl | ⟨hy, _⟩
  · exact hx
  · exact h.2 y hy⟩
theorem find_ok (T : List S23) (q : Int) (hn : T.length ≤ 1000000) (k : Nat) (hk : T.length < k) : ∃ j : Int, lighterref08_Find.f k (T.map toP) q = some j ∧ ((j < 0 ∧ findT T q = none) ∨ (0 ≤ j ∧ ∃ x, findT T q = some x)) := by
  rcases find_f T q hn k hk with ⟨h1, h2⟩ | ⟨j, hj, h1, h2⟩
  · exact ⟨_, h1, .inl ⟨by omega, findT_not h2⟩⟩
  · refine ⟨_, h1, .inr ⟨by omega, ?_⟩⟩
    cases hf : findT T q with
    | none => exact absurd h2 (findT_none hf _ (List.getElem_mem _))
    | some y => exact ⟨y, rfl⟩
theorem row25_cells {w : World} {A : Option Addr} {l : List S23} (h : Kd.C k25 w A l.length (l.map toP)) (k : Nat) (hk : k < l.length) : ∃ ad, A = some ad ∧ w.cell? (ad.add (k * 3)) = some (.int .i64 l[k].f0) ∧ w.cell? ⟨(ad.add (k * 3)).block, (ad.add (k * 3)).off + 1, none⟩ = some (.int .i64 l[k].f1) ∧ w.cell? ⟨(ad.add (k * 3)).block, (ad.add (k * 3)).off + 2, none⟩ = some (.int .i64 l[k].f2) := by
  obtain ⟨ad, e, h0, h1, h2⟩ := at_T25 h (k : Int) (by omega) (by omega)
  rw [rd25_get hk, Int.toNat_natCast] at h0 h1 h2
  exact ⟨ad, e, h0, h1, h2⟩
set_option maxRecDepth 100000 in
set_option maxHeartbeats 4000000 in
theorem refAdd_calls (B : Nat) (v : Value) (L : List S23) (A1 : Option Addr) (c1 : Nat) (l : List S23) (hl : l.length ≤ 1000) (hLn : L.length ≤ 100000) (hL : Good L) (w : World) (hv : RefV w B v L) (hB : B ≤ w.heap.size) (hr : Kd.C k25 w A1 l.length (l.map toP)) :
    Calls Try.prog 36 #[v, .slice A1 l.length c1] w fun e w' => ∃ v', e = .returned (.tuple #[v', .int .i64 (addR L l).2]) ∧ RefV w' B v' (addR L l).1 ∧ (v' = v ∨ ∀ k, v'.ownBlock = some k → w.heap.size ≤ k) ∧ Below w.heap.size w w' := by
  have HV := Aside0.mk hv
  have HR := Aside0.mk hr
  have HG := Aside0.mk hL
  have HBB := Aside0.mk hB
  have hmx : l.length ≤ 9223372036854775807 := by omega
  have hu25 := Try.underlying25
  have hu26 := Try.underlying26
  clear hv hr hL hB
  go_enter Try.func36, Try.ntmps36
  go_wp2_with (fail)
  go_loopg [6] l.length (fun kx v6 wr => ∃ i : Nat, v6 = .int .i64 (i : Int) ∧ i ≤ l.length ∧ l.length - i ≤ kx ∧ Aside0 (Below w.heap.size w wr) ∧ Aside0 (∀ j (h : j < l.length), j < i → MayR l[j]))
  case atStart => exact ⟨0, rfl, Nat.zero_le _, by omega, ⟨Below.refl _ _⟩, ⟨fun j _ hj => absurd hj (Nat.not_lt_zero _)⟩⟩
  case round =>
    obtain ⟨i, rfl, hi, hik, HB, HA⟩ := hrel
    by_cases hlt : i < l.length
    · obtain ⟨ad, rfl, h0, h1, h2⟩ := row25_cells (Kd.C_below HR.out HB.out) i hlt
      have hcall := fun W => lighterref08_May.calls _ _ _ _ W (may_ref l[i])
      generalize hx : l[i] = x at h0 h1 h2 hcall
      have HX := Aside0.mk hx
      clear hx
      cases hd : decide (MayR x) with
      | true =>
        rw [hd] at hcall
        have HM := Aside0.mk (of_decide_eq_true hd)
        clear hd
        as_aux_lemma =>
          go_wp2_with (fail)
          refine (hcall _).mono ?_
          rintro e w1 ⟨rfl, hb1⟩
          have HB1 := Aside0.mk (below_step HB.out hb1)
          clear hb1 h0 h1 h2
          go_wp2_with (fail)
          go_roundg (gk - 1)
          case measure => omega
          case rel =>
            refine ⟨i + 1, by go_num, hlt, by omega, HB1, ⟨fun j h hj => ?_⟩⟩
            by_cases e : j = i
            · subst e
              rw [HX.out]
              exact HM.out
            · exact HA.out j h (by omega)
      | false =>
        rw [hd] at hcall
        have HM := Aside0.mk (of_decide_eq_false hd)
        clear hd
        as_aux_lemma =>
          go_wp2_with (fail)
          refine (hcall _).mono ?_
          rintro e w1 ⟨rfl, hb1⟩
          have HB1 := Aside0.mk (below_step HB.out hb1)
          clear hb1 h0 h1 h2
          go_wp2_with (fail)
          go_ret2
          have e1 : addR L l = (L, 1) := by
            unfold addR
            rw [if_pos]
            rw [List.any_eq_true]
            exact ⟨x, by rw [← HX.out]; exact List.getElem_mem _, by simpa using HM.out⟩
          rw [e1]
          exact ⟨v, rfl, HV.out.below HB1.out, .inl rfl, HB1.out⟩
    · have hil : i = l.length := by omega
      subst hil
      have HAll : Aside0 (l.any (fun x => !decide (MayR x)) = false) := ⟨by
        rw [List.any_eq_false]
        intro x hx
        obtain ⟨j, hj, rfl⟩ := List.getElem_of_mem hx
        simpa using HA.out j hj hj⟩
      clear HA
      go_wp2_with (fail)
      go_loopg [7, 8] l.length (fun kx v7 v8 wr => ∃ (i : Nat) (T' : List S23), v8 = .int .i64 (i : Int) ∧ i ≤ l.length ∧ l.length - i ≤ kx ∧ T'.length ≤ L.length + i ∧ Aside0 (RefV wr B v7 T') ∧ Aside0 (v7 = v ∨ ∀ k, v7.ownBlock = some k → w.heap.size ≤ k) ∧ Aside0 (Good T') ∧ Aside0 (addAll L l = addAll T' (l.drop i)) ∧ Aside0 (Below w.heap.size w wr))
      case atStart => exact ⟨0, L, rfl, Nat.zero_le _, by omega, by omega, ⟨HV.out.below HB.out⟩, ⟨.inl rfl⟩, HG, ⟨by simp⟩, HB⟩
      case round =>
        clear HB
        obtain ⟨i, T', rfl, hi, hik, hTn, HV7, HO7, HG7, HE, HB⟩ := hrel
        obtain ⟨A7, c7, rfl, hc7, hr7⟩ := HV7.out.reads
        by_cases hlt : i < l.length
        · obtain ⟨ad, rfl, h0, h1, h2⟩ := row25_cells (Kd.C_below HR.out HB.out) i hlt
          have hmay : MayR l[i] := by
            have := List.any_eq_false.1 HAll.out l[i] (List.getElem_mem _)
            simpa using this
          have hd := HE.out
          rw [List.drop_eq_getElem_cons hlt] at hd
          generalize hx : l[i] = x at h0 h1 h2 hmay hd
          obtain ⟨j, hfj, hor⟩ := find_ok T' x.f0 (by omega) 200000 (by omega)
          have HC7 := Aside0.mk hc7
          have HR7 := Aside0.mk hr7
          have hlm : (T'.map toP).length = T'.length := List.length_map _
          have HF := Aside0.mk (fun W (hW : Kd.C k25 W A7 T'.length (T'.map toP)) => lighterref08_Find.calls 200000 A7 c7 (T'.map toP) x.f0 j W (by rw [hlm]; exact hW) (by rw [hlm]; exact hc7) hfj)
          rw [hlm] at HF
          have HD := Aside0.mk hd
          have HMY := Aside0.mk hmay
          clear hx hd hmay hfj hc7 hr7 HE
          rcases hor with ⟨hj, hn⟩ | ⟨hj, y, hn⟩
          · have HN := Aside0.mk hn
            have HW : Aside0 (∀ W, Kd.C k25 W A7 T'.length (T'.map toP) → Calls Try.prog 35 #[.slice A7 T'.length c7, .agg #[.int .i64 x.f0, .int .i64 x.f1, .int .i64 x.f2]] W fun e w' => ∃ v0_ : Value, e = .returned (v0_) ∧ Kd.R k25 25 w' W.heap.size (fun _ => True) v0_ ((putT x T').map toP) ∧ Below W.heap.size W w') := ⟨fun W hW => by
              have := lighterref08_with.calls 200000 A7 c7 (T'.map toP) x.f0 x.f1 x.f2 _ W (by rw [hlm]; exact hW) (by rw [hlm]; exact HC7.out) (with_f x T' (by omega) (findT_none HN.out) HG7.out.1 200000 (by omega))
              rw [hlm] at this
              exact this⟩
            clear hn
            as_aux_lemma =>
              go_wp2_with (fail)
              refine (HF.out _ HR7.out).mono ?_
              rintro e w1 ⟨rfl, nd, rfl⟩
              have hjb : decide (j ≥ 0) = false := decide_eq_false (by omega)
              have HB1 := Aside0.mk (pw_below_drewN HB.out nd)
              have HC1 := Aside0.mk (Kd.C_drewN HR7.out nd)
              have g0 : (wr.drewN nd).cell? (ad.add (i * 3)) = some (.int .i64 x.f0) := h0
              have g1 : (wr.drewN nd).cell? ⟨(ad.add (i * 3)).block, (ad.add (i * 3)).off + 1, none⟩ = some (.int .i64 x.f1) := h1
              have g2 : (wr.drewN nd).cell? ⟨(ad.add (i * 3)).block, (ad.add (i * 3)).off + 2, none⟩ = some (.int .i64 x.f2) := h2
              have hws := HB1.out.size
              clear HF HR7 h0 h1 h2
              generalize wr.drewN nd = w1 at g0 g1 g2 HB1 HC1 hws ⊢
              go_wp2_with (fail)
              refine (HW.out _ HC1.out).mono ?_
              rintro e w2 ⟨v2, rfl, hr2, hb2⟩
              have HB2 := Aside0.mk (below_step HB1.out hb2)
              have HR2 := Aside0.mk hr2
              clear hb2 hr2 g0 g1 g2
              go_wp2_with (fail)
              go_roundg (gk - 1)
              case measure => omega
              case rel =>
                refine ⟨i + 1, putT x T', by go_num, hlt, by omega, ?_, ⟨RefV.of HR2.out (by have := HBB.out; omega)⟩, ⟨.inr fun k hk => ?_⟩, ⟨HG7.out.put HMY.out⟩, ⟨?_⟩, HB2⟩
                · have := putT_len x T'
                  omega
                · have := Kd.R_base HR2.out k hk
                  omega
                · rw [HD.out]
                  conv => lhs; unfold addAll
                  rw [HN.out]
          · have hjb : decide (j ≥ 0) = true := decide_eq_true hj
            have HN := Aside0.mk hn
            clear hn
            as_aux_lemma =>
              go_wp2_with (fail)
              refine (HF.out _ HR7.out).mono ?_
              rintro e w1 ⟨rfl, nd, rfl⟩
              have HB1 := Aside0.mk (pw_below_drewN HB.out nd)
              clear HF HR7 h0 h1 h2
              generalize wr.drewN nd = w1 at HB1 ⊢
              go_wp2_with (fail)
              go_ret2
              have e1 : addR L l = (L, 16) := by
                have : addAll L l = none := by
                  rw [HD.out]
                  unfold addAll
                  rw [HN.out]
                unfold addR
                rw [if_neg (by rw [HAll.out]; simp), this]
              rw [e1]
              exact ⟨v, rfl, HV.out.below HB1.out, .inl rfl, HB1.out⟩
        · have hil : i = l.length := by omega
          subst hil
          go_wp2_with (fail)
          go_ret2
          have hAA : addAll L l = some T' := by
            rw [HE.out, List.drop_length]
            rfl
          have e1 : addR L l = (T', 0) := by
            unfold addR
            rw [if_neg (by rw [HAll.out]; simp), hAA]
          rw [e1]
          exact ⟨_, rfl, HV7.out, HO7.out, HB.out⟩
end Go.Proofs.Ytcjeegomonegpaa.PLivePlays
namespace Go.Proofs.Ytcjeegomonegpaa.PLivePlays
open Go.RowKit Go.Maps Go.Sort Go.Proofs.YtcjeegomonegpaaW.PrintWords Go.Proofs.YtcjeegomonegpaaW.PrintLast Go.Proofs.YtcjeegomonegpaaW.PrintMore
set_option linter.unusedVariables false
set_option linter.unusedSimpArgs false
structure Stt (w0 w : World) (g b N M : Nat) (T : List S23) (v : Value) (L : List S23) : Prop where
  bel : Below w0.heap.size w0 w
  hg : w0.heap.size ≤ g
  hb : w0.heap.size ≤ b
  gb : g ≠ b
  tab : TbB w g b N T
  ref : RefV w w0.heap.size v L
  gv : some g ≠ v.ownBlock
  bv : some b ≠ v.ownBlock
  good : Good L
  len : L.length ≤ M
theorem Stt.below {w0 w w' : World} {g b N M : Nat} {T L : List S23} {v : Value} (h : Stt w0 w g b N M T v L) (hb : Below w.heap.size w w') : Stt w0 w' g b N M T v L :=
  { h with bel := below_step h.bel hb, tab := h.tab.below hb, ref := h.ref.below hb }
theorem Stt.mono {w0 w : World} {g b N M N' M' : Nat} {T L : List S23} {v : Value} (h : Stt w0 w g b N M T v L) (h1 : N ≤ N') (h2 : M ≤ M') : Stt w0 w g b N' M' T v L :=
  { h with tab := h.tab.mono h1, len := Nat.le_trans h.len h2 }
theorem Stt.tabs {w0 w w' : World} {g b b' N N' M j : Nat} {T T' L : List S23} {v : Value} (h : Stt w0 w g b N M T v L) (hb' : b' = b ∨ w.heap.size ≤ b') (ht : TbB w' g b' N' T') (hgr : w.grownBy w' (some j)) (hj : j = g ∨ j = b) : Stt w0 w' g b' N' M T' v L where
  bel := h.bel.grown hgr h.bel.size (fun i hi => by obtain rfl := Option.some.inj hi; exact hj.elim (fun e => e ▸ h.hg) (fun e => e ▸ h.hb))
  hg := h.hg
  hb := hb'.elim (fun e => e ▸ h.hb) (fun h1 => Nat.le_trans h.bel.size h1)
  gb := hb'.elim (fun e => e ▸ h.gb) (fun h1 e => by have := blk_lt h.tab.1; omega)
  tab := ht
  ref := h.ref.move fun k hk => hgr.block k (h.ref.lt k hk) (fun e => by obtain rfl := Option.some.inj e; exact hj.elim (fun e => h.gv (e ▸ hk.symm)) (fun e => h.bv (e ▸ hk.symm)))
  gv := h.gv
  bv := hb'.elim (fun e => e ▸ h.bv) (fun h1 e => by have := h.ref.lt _ e.symm; omega)
  good := h.good
  len := h.len
theorem Stt.refs {w0 w w' : World} {g b N M M' : Nat} {T L L' : List S23} {v v' : Value} (h : Stt w0 w g b N M T v L) (hr : RefV w' w0.heap.size v' L') (ho : ∀ k, v'.ownBlock = some k → v.ownBlock = some k ∨ w.heap.size ≤ k) (hbel : Below w0.heap.size w0 w') (hk : Kept w w' (fun k => some k = v.ownBlock)) (hG : Good L') (hl : L'.length ≤ M') : Stt w0 w' g b N M' T v' L' := by
  have hgl := blk_lt h.tab.1
  have hbl := h.tab.2.lt
  have hgr : w.grownBy w' v.ownBlock := ⟨hbel.os.trans h.bel.os.symm, hbel.tape.trans h.bel.tape.symm, hbel.output.trans h.bel.output.symm, hk.1, fun k hk1 hk2 => hk.2 k hk1 hk2⟩
  refine { h with bel := hbel, tab := h.tab.grown hgr h.gv h.bv, ref := hr, gv := fun e => ?_, bv := fun e => ?_, good := hG, len := hl }
  · rcases ho g e.symm with h1 | h1
    · exact h.gv h1.symm
    · omega
  · rcases ho b e.symm with h1 | h1
    · exact h.bv h1.symm
    · omega
def stepT (T : List S23) (o : S46) : List S23 := if o.f0 = 0 then (addR T o.f2).1 else if o.f0 = 1 then (dropR T o.f1).1 else if o.f0 = 2 then (chgR T o.f3 o.f4).1 else T
theorem addAll_good : ∀ (l T : List S23) {T' : List S23}, Good T → (∀ x ∈ l, MayR x) → addAll T l = some T' → Good T' ∧ T'.length ≤ T.length + l.length
  | [], T, T', h, _, e => by
    cases e
    exact ⟨h, by simp⟩
  | x :: l, T, T', h, hm, e => by
    unfold addAll at e
    cases hf : findT T x.f0 with
    | some y => rw [hf] at e; cases e
    | none =>
      rw [hf] at e
      obtain ⟨h1, h2⟩ := addAll_good l (putT x T) (h.put (hm x List.mem_cons_self)) (fun y hy => hm y (List.mem_cons_of_mem _ hy)) e
      have := putT_len x T
      exact ⟨h1, by simp; omega⟩
theorem addR_good {T l : List S23} (h : Good T) : Good (addR T l).1 ∧ (addR T l).1.length ≤ T.length + l.length := by
  unfold addR
  split
  · exact ⟨h, by simp⟩
  · rename_i hc
    cases hf : addAll T l with
    | none => exact ⟨h, by simp⟩
    | some T' => exact addAll_good l T h (fun x hx => by simp at hc; exact hc x hx) hf
theorem dropR_good {T : List S23} {k : Int} (h : Good T) : Good (dropR T k).1 ∧ (dropR T k).1.length ≤ T.length := by
  unfold dropR
  split
  · exact ⟨⟨h.1.filter _, fun x hx => h.2 x (List.mem_filter.1 hx).1⟩, List.length_filter_le _ _⟩
  · exact ⟨h, Nat.le_refl _⟩
theorem chgR_good {T : List S23} {m l : List S66} (h : Good T) : Good (chgR T m l).1 ∧ (chgR T m l).1.length ≤ T.length := by
  unfold chgR
  split
  · split
    · split
      · rename_i hc
        refine ⟨⟨?_, hc⟩, by unfold chgT; simp⟩
        unfold chgT
        rw [List.pairwise_map]
        exact h.1
      · exact ⟨h, Nat.le_refl _⟩
    · exact ⟨h, Nat.le_refl _⟩
  · exact ⟨h, Nat.le_refl _⟩
structure Args (w0 : World) (o : S46) (A2 : Option Addr) (c2 : Nat) (A3 : Option Addr) (c3 : Nat) (A4 : Option Addr) (c4 : Nat) : Prop where
  seq : (Lit.int .i64 o.f1).wf = true
  n2 : o.f2.length ≤ 20
  n3 : o.f3.length ≤ 20
  n4 : o.f4.length ≤ 20
  k2 : o.f2.length ≤ c2
  k3 : o.f3.length ≤ c3
  k4 : o.f4.length ≤ c4
  r2 : Kd.C k23 w0 A2 o.f2.length o.f2
  r3 : Kd.C k66 w0 A3 o.f3.length o.f3
  r4 : Kd.C k66 w0 A4 o.f4.length o.f4
abbrev opV (o : S46) (A2 : Option Addr) (c2 : Nat) (A3 : Option Addr) (c3 : Nat) (A4 : Option Addr) (c4 : Nat) : Array Value := #[.int .i64 o.f0, .int .i64 o.f1, .slice A2 o.f2.length c2, .slice A3 o.f3.length c3, .slice A4 o.f4.length c4]
set_option maxRecDepth 100000 in
set_option maxHeartbeats 4000000 in
theorem does0 (w0 w : World) (g b N M : Nat) (T L : List S23) (v : Value) (o : S46) (A2 : Option Addr) (c2 : Nat) (A3 : Option Addr) (c3 : Nat) (A4 : Option Addr) (c4 : Nat) (hs : Stt w0 w g b N M T v L) (ha : Args w0 o A2 c2 A3 c3 A4 c4) (hN : N ≤ 100000) (hM : M ≤ 900) (h0 : o.f0 = 0) :
    Calls Try.prog 21 #[.pointer (some ⟨g, 0, none⟩), v, .agg (opV o A2 c2 A3 c3 A4 c4)] w fun e w' => ∃ b' v' ok, e = .returned (.tuple #[v', .bool ok]) ∧ (L = T → ok = true) ∧ Stt w0 w' g b' (N + 80) (M + 20) (addR T o.f2).1 v' (addR L o.f2).1 := by
  have hu46 := Try.underlying46
  have hu28 := Try.underlying28
  have hu33 := Try.underlying33
  obtain ⟨o0, o1, o2, o3, o4⟩ := o
  simp only at h0
  subst h0
  simp only [opV]
  have HA := Aside0.mk ha
  have HS := Aside0.mk (hs.below (below_alloc (Below.refl _ w) (.cells #[.int .i64 0, .int .i64 o1, .slice A2 o2.length c2, .slice A3 o3.length c3, .slice A4 o4.length c4] 46)))
  have HX := Aside0.mk (blk_new w (.cells #[.int .i64 0, .int .i64 o1, .slice A2 o2.length c2, .slice A3 o3.length c3, .slice A4 o4.length c4] 46))
  clear ha hs
  go_enter Try.func21, Try.ntmps21
  go_wp2_with (fail)
  generalize (w.alloc (.cells #[.int .i64 0, .int .i64 o1, .slice A2 o2.length c2, .slice A3 o3.length c3, .slice A4 o4.length c4] 46)) = wa at HS HX ⊢
  have hl2 : o2.length ≤ 20 := HA.out.n2
  refine (addB_calls g b N T A2 c2 o2 wa HS.out.tab (Kd.C_below HA.out.r2 HS.out.bel) (by omega)).mono ?_
  rintro e w1 ⟨rfl, b1, hb1, ht1, hg1⟩
  have HS1 := Aside0.mk (HS.out.tabs hb1 ht1 hg1 (.inl rfl))
  have hgx : g ≠ w.heap.size := by
    intro e
    have h1 := HS.out.tab.1
    rw [e, HX.out] at h1
    simp at h1
  have bx := (hg1.block w.heap.size (blk_lt HX.out) (fun e => hgx (Option.some.inj e).symm)).trans HX.out
  have k2 : w1.cell? ⟨w.heap.size, 2, none⟩ = some (.slice A2 o2.length c2) := (blk_cell bx 2).trans rfl
  clear hb1 ht1 hg1 bx HS
  have HP := Aside0.mk (lighterlaw08_Plain.calls 200000 A2 c2 o2 _ w1 (Kd.C_below HA.out.r2 HS1.out.bel) HA.out.k2 (plain_f o2 (by omega) 200000 (by omega)))
  go_wp2_with (fail)
  refine HP.out.mono ?_
  rintro e w2 ⟨v2, rfl, hr2, hb2⟩
  have HS2 := Aside0.mk (HS1.out.below hb2)
  obtain ⟨A5, c5, rfl, hc5, hr5⟩ := Kd.R_reads hr2
  rw [List.length_map] at hr5 hc5 ⊢
  have HR5 := Aside0.mk hr5
  clear hr2 hb2 hr5 hc5 HP HS1 k2
  go_wp2_with (fail)
  refine (refAdd_calls w0.heap.size v L A5 c5 o2 (by omega) (by have := HS2.out.len; omega) HS2.out.good w2 HS2.out.ref HS2.out.bel.size HR5.out).mono ?_
  rintro e w3 ⟨v3, rfl, hv3, ho3, hb3⟩
  obtain ⟨q1, q2⟩ := addR_good (l := o2) HS2.out.good
  have HS3 := Aside0.mk (HS2.out.refs (M' := M + 20) hv3 (fun k hk => by
    rcases ho3 with rfl | h
    · exact .inl hk
    · exact .inr (h k hk)) (below_step HS2.out.bel hb3) (Kept.of_below hb3 _) q1 (by have := HS2.out.len; omega))
  clear hv3 ho3 hb3 q1 q2 HS2
  go_wp2_with (fail)
  go_ret2
  exact ⟨b1, v3, _, rfl, fun e => by subst e; simp, HS3.out.mono (by omega) (Nat.le_refl _)⟩
theorem heap66 : Kd.Heap k66 := Kd.heap_iso _ (Kd.heap_pair (Kd.heap_iso _ (Kd.heap_pair (Kd.heap_int _) (Kd.heap_int _))) (Kd.heap_iso _ (Kd.heap_pair (Kd.heap_int _) (Kd.heap_int _))))
theorem dropB (g b N : Nat) (T : List S23) (k : Int) (hk : (Lit.int .i64 k).wf = true) (w : World) (hT : TbB w g b N T) (hgb : g ≠ b) :
    Calls Try.prog 27 #[.pointer (some ⟨g, 0, none⟩), .int .i64 k] w fun e w' => e = .returned (.int .i64 (dropR T k).2) ∧ TbB w' g b N (dropR T k).1 ∧ w.grownBy w' (some b) := by
  unfold dropR
  cases hq : findT T k with
  | none => exact (drop_none g N T k hk w hT.tb hq).mono fun e w' ⟨h1, h2⟩ => ⟨h1, hT.below h2, grown_of_below h2 _⟩
  | some x => exact drop_some g b N T k hk w hT hgb x hq
set_option maxRecDepth 100000 in
set_option maxHeartbeats 4000000 in
theorem does1 (w0 w : World) (g b N M : Nat) (T L : List S23) (v : Value) (o : S46) (A2 : Option Addr) (c2 : Nat) (A3 : Option Addr) (c3 : Nat) (A4 : Option Addr) (c4 : Nat) (hs : Stt w0 w g b N M T v L) (ha : Args w0 o A2 c2 A3 c3 A4 c4) (hN : N ≤ 100000) (hM : M ≤ 900) (h0 : o.f0 = 1) :
    Calls Try.prog 21 #[.pointer (some ⟨g, 0, none⟩), v, .agg (opV o A2 c2 A3 c3 A4 c4)] w fun e w' => ∃ b' v' ok, e = .returned (.tuple #[v', .bool ok]) ∧ (L = T → ok = true) ∧ Stt w0 w' g b' (N + 80) (M + 20) (dropR T o.f1).1 v' (dropR L o.f1).1 := by
  have hu46 := Try.underlying46
  have hu28 := Try.underlying28
  have hu33 := Try.underlying33
  obtain ⟨o0, o1, o2, o3, o4⟩ := o
  simp only at h0
  subst h0
  simp only [opV]
  have HA := Aside0.mk ha
  have HS := Aside0.mk (hs.below (below_alloc (Below.refl _ w) (.cells #[.int .i64 1, .int .i64 o1, .slice A2 o2.length c2, .slice A3 o3.length c3, .slice A4 o4.length c4] 46)))
  have HX := Aside0.mk (blk_new w (.cells #[.int .i64 1, .int .i64 o1, .slice A2 o2.length c2, .slice A3 o3.length c3, .slice A4 o4.length c4] 46))
  clear ha hs
  go_enter Try.func21, Try.ntmps21
  go_wp2_with (fail)
  generalize (w.alloc (.cells #[.int .i64 1, .int .i64 o1, .slice A2 o2.length c2, .slice A3 o3.length c3, .slice A4 o4.length c4] 46)) = wa at HS HX ⊢
  refine (dropB g b N T o1 HA.out.seq wa HS.out.tab HS.out.gb).mono ?_
  rintro e w1 ⟨rfl, ht1, hg1⟩
  have HS1 := Aside0.mk (HS.out.tabs (.inl rfl) ht1 hg1 (.inr rfl))
  have hbx : b ≠ w.heap.size := by
    intro e
    obtain ⟨_, D, ⟨es, clock, hb, _⟩, _⟩ := HS.out.tab.2
    rw [e, HX.out] at hb
    simp at hb
  have bx := (hg1.block w.heap.size (blk_lt HX.out) (fun e => hbx (Option.some.inj e).symm)).trans HX.out
  have k1 : w1.cell? ⟨w.heap.size, 1, none⟩ = some (.int .i64 o1) := (blk_cell bx 1).trans rfl
  have HD := Aside0.mk (lighterref08_Drop.calls 200000 (fun k => some k = v.ownBlock) v (L.map toP) o1 _ _ w0 w1 HS1.out.bel HS1.out.ref (refDrop_f L HS1.out.good.1 (by have := HS1.out.len; omega) o1 200000 (by have := HS1.out.len; omega)))
  clear ht1 hg1 bx HS
  go_wp2_with (fail)
  refine HD.out.mono ?_
  rintro e w2 ⟨v2, rfl, hr2, hb2, hk2⟩
  obtain ⟨q1, q2⟩ := dropR_good (k := o1) HS1.out.good
  have HS2 := Aside0.mk (HS1.out.refs (M' := M + 20) (RefV.of hr2 (Nat.le_refl _)) (fun k hk => (hr2.1 k hk).imp (fun h => h.symm) id) hb2 hk2 q1 (by have := HS1.out.len; omega))
  clear hr2 hb2 hk2 q1 q2 HD HS1 k1
  go_wp2_with (fail)
  go_ret2
  exact ⟨b, v2, _, rfl, fun e => by subst e; simp, HS2.out.mono (by omega) (Nat.le_refl _)⟩
set_option maxRecDepth 100000 in
set_option maxHeartbeats 4000000 in
theorem does2 (w0 w : World) (g b N M : Nat) (T L : List S23) (v : Value) (o : S46) (A2 : Option Addr) (c2 : Nat) (A3 : Option Addr) (c3 : Nat) (A4 : Option Addr) (c4 : Nat) (hs : Stt w0 w g b N M T v L) (ha : Args w0 o A2 c2 A3 c3 A4 c4) (hN : N ≤ 100000) (hM : M ≤ 900) (h0 : o.f0 = 2) :
    Calls Try.prog 21 #[.pointer (some ⟨g, 0, none⟩), v, .agg (opV o A2 c2 A3 c3 A4 c4)] w fun e w' => ∃ b' v' ok, e = .returned (.tuple #[v', .bool ok]) ∧ (L = T → ok = true) ∧ Stt w0 w' g b' (N + 80) (M + 20) (chgR T o.f3 o.f4).1 v' (chgR L o.f3 o.f4).1 := by
  have hu46 := Try.underlying46
  have hu28 := Try.underlying28
  have hu33 := Try.underlying33
  obtain ⟨o0, o1, o2, o3, o4⟩ := o
  simp only at h0
  subst h0
  simp only [opV]
  have HA := Aside0.mk ha
  have HS := Aside0.mk (hs.below (below_alloc (Below.refl _ w) (.cells #[.int .i64 2, .int .i64 o1, .slice A2 o2.length c2, .slice A3 o3.length c3, .slice A4 o4.length c4] 46)))
  have HX := Aside0.mk (blk_new w (.cells #[.int .i64 2, .int .i64 o1, .slice A2 o2.length c2, .slice A3 o3.length c3, .slice A4 o4.length c4] 46))
  clear ha hs
  go_enter Try.func21, Try.ntmps21
  go_wp2_with (fail)
  generalize (w.alloc (.cells #[.int .i64 2, .int .i64 o1, .slice A2 o2.length c2, .slice A3 o3.length c3, .slice A4 o4.length c4] 46)) = wa at HS HX ⊢
  have hl3 : o3.length ≤ 20 := HA.out.n3
  have hl4 : o4.length ≤ 20 := HA.out.n4
  refine (change_calls g b N (by omega) T A3 c3 o3 A4 c4 o4 (by omega) (by omega) wa HS.out.tab (Kd.C_below HA.out.r3 HS.out.bel) (Kd.C_below HA.out.r4 HS.out.bel)).mono ?_
  rintro e w1 ⟨rfl, b1, hb1, ht1, hg1⟩
  have HS1 := Aside0.mk (HS.out.tabs hb1 ht1 hg1 (.inl rfl))
  have hgx : g ≠ w.heap.size := by
    intro e
    have h1 := HS.out.tab.1
    rw [e, HX.out] at h1
    simp at h1
  have bx := (hg1.block w.heap.size (blk_lt HX.out) (fun e => hgx (Option.some.inj e).symm)).trans HX.out
  have k3 : w1.cell? ⟨w.heap.size, 3, none⟩ = some (.slice A3 o3.length c3) := (blk_cell bx 3).trans rfl
  have k4 : w1.cell? ⟨w.heap.size, 4, none⟩ = some (.slice A4 o4.length c4) := (blk_cell bx 4).trans rfl
  have hbase : ∀ k, some k = v.ownBlock → w0.heap.size ≤ k := fun k hk => HS1.out.ref.base k hk.symm
  have HD := Aside0.mk (lighterref08_Change.calls 2000000 (fun k => some k = v.ownBlock) v (L.map toP) A3 c3 o3 A4 c4 o4 _ _ w0 w1 HS1.out.bel HS1.out.ref (Kd.C_kept_came heap66 HA.out.r3 HS1.out.bel hbase) HA.out.k3 (Kd.C_kept_came heap66 HA.out.r4 HS1.out.bel hbase) HA.out.k4 (refChange_f L (by have := HS1.out.len; omega) HS1.out.good o3 o4 (by omega) (by omega) 2000000 (by omega)))
  clear hb1 ht1 hg1 bx HS hbase
  go_wp2_with (fail)
  refine HD.out.mono ?_
  rintro e w2 ⟨v2, rfl, hr2, hb2, hk2⟩
  obtain ⟨q1, q2⟩ := chgR_good (m := o3) (l := o4) HS1.out.good
  have HS2 := Aside0.mk (HS1.out.refs (M' := M + 20) (RefV.of hr2 (Nat.le_refl _)) (fun k hk => (hr2.1 k hk).imp (fun h => h.symm) id) hb2 hk2 q1 (by have := HS1.out.len; omega))
  clear hr2 hb2 hk2 q1 q2 HD HS1 k3 k4
  go_wp2_with (fail)
  go_ret2
  exact ⟨b1, v2, _, rfl, fun e => by subst e; simp, HS2.out.mono (Nat.le_refl _) (Nat.le_refl _)⟩
end Go.Proofs.Ytcjeegomonegpaa.PLivePlays
namespace Go.Proofs.Ytcjeegomonegpaa.PLivePlays
open Go.RowKit Go.Maps Go.Sort Go.Proofs.YtcjeegomonegpaaW.PrintWords Go.Proofs.YtcjeegomonegpaaW.PrintLast Go.Proofs.YtcjeegomonegpaaW.PrintMore
set_option linter.unusedVariables false
set_option linter.unusedSimpArgs false
theorem reads1 {w : World} {g : Nat} {x : S23} (h : w.heap[g]? = some (.cells #[.int .i64 x.f0, .int .i64 x.f1, .int .i64 x.f2] 23 (0, 0))) : Kd.C k23 w (some ⟨g, 0, none⟩) 1 [x] := by
  have h1 : w.ownsRow 0 23 3 (.slice (some ⟨g, 0, none⟩) 1 1) 1 (flatR [x]) := ⟨rfl, .inr ⟨g, 1, _, rfl, Nat.zero_le _, h, Nat.le_refl _, by decide, rfl, rfl⟩⟩
  rcases SlR.of_own (l := [x]) h1 with ⟨h0, _⟩ | ⟨g', o, cap, e, _, _, _, hh⟩
  · cases h0
  · injection e with e1 e2 e3
    injection e1 with e1
    injection e1 with e1 e4
    subst e1; subst e4
    exact reads_of_holds hh (by simp)
theorem zero_mul (T : Nat) (h0 : 0 < T) (h1 : T ≤ 65536) : floatBits .mul .f64 0 (floatOfInt .f64 (T : Int)) = some 0 := by
  show ((Ieee.double.read 0).product (Ieee.double.read (floatOfInt .f64 (T : Int)))).map Ieee.double.write = _
  rw [Fl.read_int T h0 h1, Fl.zero_read]
  simp [Ieee.Datum.product, Ieee.Format.write, Ieee.Format.nearest, Ieee.Format.word]
end Go.Proofs.Ytcjeegomonegpaa.PLivePlays
namespace Go.Proofs.Ytcjeegomonegpaa.PLivePlays
open Go.RowKit Go.Maps Go.Sort Go.Proofs.YtcjeegomonegpaaW.PrintWords Go.Proofs.YtcjeegomonegpaaW.PrintLast Go.Proofs.YtcjeegomonegpaaW.PrintMore
set_option linter.unusedVariables false
set_option linter.unusedSimpArgs false
def DidQ (w0 : World) (g N M : Nat) (T L T' L' : List S23) (e : Ending) (w' : World) : Prop := ∃ b' v' ok, e = .returned (.tuple #[v', .bool ok]) ∧ (L = T → ok = true) ∧ Stt w0 w' g b' N M T' v' L'
theorem find_at {T : List S23} (hs : T.Pairwise (fun x y => x.f0 < y.f0)) {q : Int} {x : S23} (hf : findT T q = some x) (hn : T.length ≤ 1000000) (k : Nat) (hk : T.length < k) : ∃ (j : Nat) (h : j < T.length), lighterref08_Find.f k (T.map toP) q = some (j : Int) ∧ T[j] = x := by
  rcases find_f T q hn k hk with ⟨h1, h2⟩ | ⟨j, hj, h1, h2⟩
  · exact absurd (findT_some hf).2 (h2 _ (findT_some hf).1)
  · refine ⟨j, hj, h1, ?_⟩
    have := (find_iff (uniq_sorted hs)).2 ⟨List.getElem_mem hj, h2⟩
    rw [this] at hf
    exact Option.some.inj hf
theorem find_not {T : List S23} {q : Int} (hf : findT T q = none) (hn : T.length ≤ 1000000) (k : Nat) (hk : T.length < k) : lighterref08_Find.f k (T.map toP) q = some (-1) := by
  rcases find_f T q hn k hk with ⟨h1, h2⟩ | ⟨j, hj, h1, h2⟩
  · exact h1
  · exact absurd h2 (findT_none hf _ (List.getElem_mem _))
theorem same_one (x y : S23) (k : Nat) : ∃ r, lighterlaw08_Same.f (k + 2) [x] [toP y] = some r ∧ (x = y → r = true) := by
  by_cases e : x = y
  · subst e
    exact ⟨true, same_f [x] (by simp) (k + 2) (by simp), fun _ => rfl⟩
  · have h1 : ∃ r, lighterlaw08_Same.f (k + 2) [x] [toP y] = some r := by
      unfold lighterlaw08_Same.f
      rw [plain_f [x] (by simp) (k + 2) (by simp), Option.bind_some, if_pos (by simp)]
      unfold lighterlaw08_Same.l0
      rw [if_pos (by simp), if_pos (by omega), if_pos (by simp)]
      split
      · exact ⟨_, rfl⟩
      · unfold lighterlaw08_Same.l0
        have e1 : wrap64 (0 + 1) = 1 := by rw [wrap64_in _ (by omega)]; rfl
        rw [e1, if_neg (by simp)]
        exact ⟨_, rfl⟩
    obtain ⟨r, hr⟩ := h1
    exact ⟨r, hr, fun h => absurd h e⟩
def getss.T19 : Bool × List (List Nat × List Nat) := (true, [([], []), ([], []), ([1], [1]), ([2], [2]), ([3], [3]), ([4, 3], [3, 4]), ([3], [3]), ([3], [3]), ([3], [3]), ([8, 3], [3, 8]), ([6, 7, 9, 3], [3, 6, 7, 9]), ([5, 10, 3, 3], [3, 5, 10]), ([3, 11], [3, 11]), ([0, 11, 0], [0]), ([12, 13, 0, 1, 2, 3, 4, 5, 6, 7, 8, 9, 10, 11, 12, 13], [12])])
def getss.B19 : List Nat := [0, 0, 2, 6, 14, 30, 14, 14, 14, 270, 974, 2046, 4094, 4095, 16383]
theorem getss.tab19 : rtab .any (opsOf Try.f21 19) = getss.T19 := by kernel_rfl
theorem getss.bits19 : waitsOk getss.T19.2 getss.B19 = true := by kernel_rfl
set_option maxRecDepth 100000 in
set_option maxHeartbeats 4000000 in
theorem does3_nn (w0 w : World) (g b N M : Nat) (T L : List S23) (v : Value) (o : S46) (A2 : Option Addr) (c2 : Nat) (A3 : Option Addr) (c3 : Nat) (A4 : Option Addr) (c4 : Nat) (hs : Stt w0 w g b N M T v L) (ha : Args w0 o A2 c2 A3 c3 A4 c4) (hN : N ≤ 100000) (hM : M ≤ 900) (h0 : o.f0 = 3) (hq : findT T o.f1 = none) (hq2 : findT L o.f1 = none) :
    Calls Try.prog 21 #[.pointer (some ⟨g, 0, none⟩), v, .agg (opV o A2 c2 A3 c3 A4 c4)] w fun e w' => DidQ w0 g (N + 80) (M + 20) T L T L e w' := by
  have HQ := Aside0.mk hq
  have HQ2 := Aside0.mk hq2
  clear hq hq2
  have hu46 := Try.underlying46
  have hu28 := Try.underlying28
  have hu33 := Try.underlying33
  have hu23 := Try.underlying23
  have hu26 := Try.underlying26
  obtain ⟨o0, o1, o2, o3, o4⟩ := o
  simp only at h0
  subst h0
  simp only [opV]
  have HA := Aside0.mk ha
  have HS := Aside0.mk (hs.below (below_alloc (Below.refl _ w) (.cells #[.int .i64 3, .int .i64 o1, .slice A2 o2.length c2, .slice A3 o3.length c3, .slice A4 o4.length c4] 46)))
  have HX := Aside0.mk (blk_new w (.cells #[.int .i64 3, .int .i64 o1, .slice A2 o2.length c2, .slice A3 o3.length c3, .slice A4 o4.length c4] 46))
  clear ha hs
  go_enter Try.func21, Try.ntmps21
  go_wp2_with (fail)
  generalize (w.alloc (.cells #[.int .i64 3, .int .i64 o1, .slice A2 o2.length c2, .slice A3 o3.length c3, .slice A4 o4.length c4] 46)) = wa at HS HX ⊢
  refine (get_none g N T o1 HA.out.seq wa HS.out.tab.tb HQ.out).mono ?_
  rintro e w1 ⟨rfl, hb1⟩
  have HS1 := Aside0.mk ((HS.out.below hb1).below (below_alloc (Below.refl _ _) (.cells #[.int .i64 0, .int .i64 0, .int .i64 0] 23)))
  have bx := blk_alloc (blk_below HX.out hb1) (.cells #[.int .i64 0, .int .i64 0, .int .i64 0] 23)
  have HY := Aside0.mk (blk_new w1 (.cells #[.int .i64 0, .int .i64 0, .int .i64 0] 23))
  have k1 : (w1.alloc (.cells #[.int .i64 0, .int .i64 0, .int .i64 0] 23)).cell? ⟨w.heap.size, 1, none⟩ = some (.int .i64 o1) := (blk_cell bx 1).trans rfl
  clear hb1 bx HS
  obtain ⟨A, c, rfl, hc, hr⟩ := HS1.out.ref.reads
  have hLn : L.length ≤ 900 := by have := HS1.out.len; omega
  have hlm : (L.map toP).length = L.length := List.length_map _
  have HF := Aside0.mk (fun W (hW : Kd.C k25 W A L.length (L.map toP)) => lighterref08_Find.calls 200000 A c (L.map toP) o1 (-1) W (by rw [hlm]; exact hW) (by rw [hlm]; exact hc) (find_not HQ2.out (by omega) 200000 (by omega)))
  rw [hlm] at HF
  have HR := Aside0.mk hr
  have HC := Aside0.mk hc
  clear hr hc hlm
  go_wp2_with (fail)
  refine (HF.out _ HR.out).mono ?_
  rintro e w2 ⟨rfl, nd, rfl⟩
  have HS2 := Aside0.mk (HS1.out.below (pw_below_drewN (Below.refl _ _) nd))
  have HY2 := Aside0.mk (blk_drewN HY.out nd)
  have HR2 := Aside0.mk (Kd.C_drewN HR.out nd)
  clear HF HR HY HS1 k1
  generalize (w1.alloc (.cells #[.int .i64 0, .int .i64 0, .int .i64 0] 23)).drewN nd = w2 at HS2 HY2 HR2 ⊢
  generalize w1.heap.size = by_ at HY2 ⊢
  have y0 : w2.cell? ⟨by_, 0, none⟩ = some (.int .i64 0) := (blk_cell HY2.out 0).trans rfl
  have y1 : w2.cell? ⟨by_, 1, none⟩ = some (.int .i64 0) := (blk_cell HY2.out 1).trans rfl
  have y2 : w2.cell? ⟨by_, 2, none⟩ = some (.int .i64 0) := (blk_cell HY2.out 2).trans rfl
  go_wp2_with (fail)
  go_quiet (fail)
  go_wp2_with (fail)
  go_ret2
  exact ⟨b, _, true, rfl, fun _ => rfl, (HS2.out.below (pw_below_drewN (Below.refl _ _) nq)).mono (by omega) (by omega)⟩
set_option maxRecDepth 100000 in
set_option maxHeartbeats 4000000 in
theorem does3_sn (w0 w : World) (g b N M : Nat) (T L : List S23) (v : Value) (o : S46) (A2 : Option Addr) (c2 : Nat) (A3 : Option Addr) (c3 : Nat) (A4 : Option Addr) (c4 : Nat) (hs : Stt w0 w g b N M T v L) (ha : Args w0 o A2 c2 A3 c3 A4 c4) (hN : N ≤ 100000) (hM : M ≤ 900) (h0 : o.f0 = 3) (x : S23) (hq : findT T o.f1 = some x) (hq2 : findT L o.f1 = none) :
    Calls Try.prog 21 #[.pointer (some ⟨g, 0, none⟩), v, .agg (opV o A2 c2 A3 c3 A4 c4)] w fun e w' => DidQ w0 g (N + 80) (M + 20) T L T L e w' := by
  have HQ := Aside0.mk hq
  have HQ2 := Aside0.mk hq2
  clear hq hq2
  have hu46 := Try.underlying46
  have hu28 := Try.underlying28
  have hu33 := Try.underlying33
  have hu23 := Try.underlying23
  have hu26 := Try.underlying26
  obtain ⟨o0, o1, o2, o3, o4⟩ := o
  simp only at h0
  subst h0
  simp only [opV]
  have HA := Aside0.mk ha
  have HS := Aside0.mk (hs.below (below_alloc (Below.refl _ w) (.cells #[.int .i64 3, .int .i64 o1, .slice A2 o2.length c2, .slice A3 o3.length c3, .slice A4 o4.length c4] 46)))
  have HX := Aside0.mk (blk_new w (.cells #[.int .i64 3, .int .i64 o1, .slice A2 o2.length c2, .slice A3 o3.length c3, .slice A4 o4.length c4] 46))
  clear ha hs
  go_enter Try.func21, Try.ntmps21
  go_wp2_with (fail)
  generalize (w.alloc (.cells #[.int .i64 3, .int .i64 o1, .slice A2 o2.length c2, .slice A3 o3.length c3, .slice A4 o4.length c4] 46)) = wa at HS HX ⊢
  refine (get_some g N T o1 HA.out.seq wa HS.out.tab.tb x HQ.out).mono ?_
  rintro e w1 ⟨rfl, hb1⟩
  have HS1 := Aside0.mk ((HS.out.below hb1).below (below_alloc (Below.refl _ _) (.cells #[.int .i64 x.f0, .int .i64 x.f1, .int .i64 x.f2] 23)))
  have bx := blk_alloc (blk_below HX.out hb1) (.cells #[.int .i64 x.f0, .int .i64 x.f1, .int .i64 x.f2] 23)
  have HY := Aside0.mk (blk_new w1 (.cells #[.int .i64 x.f0, .int .i64 x.f1, .int .i64 x.f2] 23))
  have k1 : (w1.alloc (.cells #[.int .i64 x.f0, .int .i64 x.f1, .int .i64 x.f2] 23)).cell? ⟨w.heap.size, 1, none⟩ = some (.int .i64 o1) := (blk_cell bx 1).trans rfl
  clear hb1 bx HS
  obtain ⟨A, c, rfl, hc, hr⟩ := HS1.out.ref.reads
  have hLn : L.length ≤ 900 := by have := HS1.out.len; omega
  have hlm : (L.map toP).length = L.length := List.length_map _
  have HF := Aside0.mk (fun W (hW : Kd.C k25 W A L.length (L.map toP)) => lighterref08_Find.calls 200000 A c (L.map toP) o1 (-1) W (by rw [hlm]; exact hW) (by rw [hlm]; exact hc) (find_not HQ2.out (by omega) 200000 (by omega)))
  rw [hlm] at HF
  have HR := Aside0.mk hr
  have HC := Aside0.mk hc
  clear hr hc hlm
  go_wp2_with (fail)
  refine (HF.out _ HR.out).mono ?_
  rintro e w2 ⟨rfl, nd, rfl⟩
  have HS2 := Aside0.mk (HS1.out.below (pw_below_drewN (Below.refl _ _) nd))
  have HY2 := Aside0.mk (blk_drewN HY.out nd)
  have HR2 := Aside0.mk (Kd.C_drewN HR.out nd)
  clear HF HR HY HS1 k1
  generalize (w1.alloc (.cells #[.int .i64 x.f0, .int .i64 x.f1, .int .i64 x.f2] 23)).drewN nd = w2 at HS2 HY2 HR2 ⊢
  generalize w1.heap.size = by_ at HY2 ⊢
  have y0 : w2.cell? ⟨by_, 0, none⟩ = some (.int .i64 x.f0) := (blk_cell HY2.out 0).trans rfl
  have y1 : w2.cell? ⟨by_, 1, none⟩ = some (.int .i64 x.f1) := (blk_cell HY2.out 1).trans rfl
  have y2 : w2.cell? ⟨by_, 2, none⟩ = some (.int .i64 x.f2) := (blk_cell HY2.out 2).trans rfl
  go_wp2_with (fail)
  go_quiet (fail)
  go_wp2_with (fail)
  go_ret2
  exact ⟨b, _, false, rfl, fun e => by (have h1 := HQ.out; have h2 := HQ2.out; rw [e] at h2; exact absurd (h1.symm.trans h2) (by simp)), (HS2.out.below (pw_below_drewN (Below.refl _ _) nq)).mono (by omega) (by omega)⟩
set_option maxRecDepth 100000 in
set_option maxHeartbeats 4000000 in
theorem does3_ns (w0 w : World) (g b N M : Nat) (T L : List S23) (v : Value) (o : S46) (A2 : Option Addr) (c2 : Nat) (A3 : Option Addr) (c3 : Nat) (A4 : Option Addr) (c4 : Nat) (hs : Stt w0 w g b N M T v L) (ha : Args w0 o A2 c2 A3 c3 A4 c4) (hN : N ≤ 100000) (hM : M ≤ 900) (h0 : o.f0 = 3) (y : S23) (hq : findT T o.f1 = none) (hq2 : findT L o.f1 = some y) :
    Calls Try.prog 21 #[.pointer (some ⟨g, 0, none⟩), v, .agg (opV o A2 c2 A3 c3 A4 c4)] w fun e w' => DidQ w0 g (N + 80) (M + 20) T L T L e w' := by
  have HQ := Aside0.mk hq
  have HQ2 := Aside0.mk hq2
  clear hq hq2
  have hu46 := Try.underlying46
  have hu28 := Try.underlying28
  have hu33 := Try.underlying33
  have hu23 := Try.underlying23
  have hu26 := Try.underlying26
  obtain ⟨o0, o1, o2, o3, o4⟩ := o
  simp only at h0
  subst h0
  simp only [opV]
  have HA := Aside0.mk ha
  have HS := Aside0.mk (hs.below (below_alloc (Below.refl _ w) (.cells #[.int .i64 3, .int .i64 o1, .slice A2 o2.length c2, .slice A3 o3.length c3, .slice A4 o4.length c4] 46)))
  have HX := Aside0.mk (blk_new w (.cells #[.int .i64 3, .int .i64 o1, .slice A2 o2.length c2, .slice A3 o3.length c3, .slice A4 o4.length c4] 46))
  clear ha hs
  go_enter Try.func21, Try.ntmps21
  go_wp2_with (fail)
  generalize (w.alloc (.cells #[.int .i64 3, .int .i64 o1, .slice A2 o2.length c2, .slice A3 o3.length c3, .slice A4 o4.length c4] 46)) = wa at HS HX ⊢
  refine (get_none g N T o1 HA.out.seq wa HS.out.tab.tb HQ.out).mono ?_
  rintro e w1 ⟨rfl, hb1⟩
  have HS1 := Aside0.mk ((HS.out.below hb1).below (below_alloc (Below.refl _ _) (.cells #[.int .i64 0, .int .i64 0, .int .i64 0] 23)))
  have bx := blk_alloc (blk_below HX.out hb1) (.cells #[.int .i64 0, .int .i64 0, .int .i64 0] 23)
  have HY := Aside0.mk (blk_new w1 (.cells #[.int .i64 0, .int .i64 0, .int .i64 0] 23))
  have k1 : (w1.alloc (.cells #[.int .i64 0, .int .i64 0, .int .i64 0] 23)).cell? ⟨w.heap.size, 1, none⟩ = some (.int .i64 o1) := (blk_cell bx 1).trans rfl
  clear hb1 bx HS
  obtain ⟨A, c, rfl, hc, hr⟩ := HS1.out.ref.reads
  have hLn : L.length ≤ 900 := by have := HS1.out.len; omega
  have hlm : (L.map toP).length = L.length := List.length_map _
  obtain ⟨j, hj, hfj, hxj⟩ := find_at HS1.out.good.1 HQ2.out (by omega) 200000 (by omega)
  have HF := Aside0.mk (fun W (hW : Kd.C k25 W A L.length (L.map toP)) => lighterref08_Find.calls 200000 A c (L.map toP) o1 (j : Int) W (by rw [hlm]; exact hW) (by rw [hlm]; exact hc) hfj)
  have HXJ := Aside0.mk hxj
  have hjl : (j : Int) < (L.length : Int) := by omega
  clear hfj hxj
  rw [hlm] at HF
  have HR := Aside0.mk hr
  have HC := Aside0.mk hc
  clear hr hc hlm
  go_wp2_with (fail)
  refine (HF.out _ HR.out).mono ?_
  rintro e w2 ⟨rfl, nd, rfl⟩
  have HS2 := Aside0.mk (HS1.out.below (pw_below_drewN (Below.refl _ _) nd))
  have HY2 := Aside0.mk (blk_drewN HY.out nd)
  have HR2 := Aside0.mk (Kd.C_drewN HR.out nd)
  clear HF HR HY HS1 k1
  generalize (w1.alloc (.cells #[.int .i64 0, .int .i64 0, .int .i64 0] 23)).drewN nd = w2 at HS2 HY2 HR2 ⊢
  generalize w1.heap.size = by_ at HY2 ⊢
  have y0 : w2.cell? ⟨by_, 0, none⟩ = some (.int .i64 0) := (blk_cell HY2.out 0).trans rfl
  have y1 : w2.cell? ⟨by_, 1, none⟩ = some (.int .i64 0) := (blk_cell HY2.out 1).trans rfl
  have y2 : w2.cell? ⟨by_, 2, none⟩ = some (.int .i64 0) := (blk_cell HY2.out 2).trans rfl
  go_wp2_with (fail)
  go_quiet (fail)
  go_wp2_with (fail)
  go_ret2
  exact ⟨b, _, false, rfl, fun e => by (have h1 := HQ.out; have h2 := HQ2.out; rw [e] at h2; exact absurd (h1.symm.trans h2) (by simp)), (HS2.out.below (pw_below_drewN (Below.refl _ _) nq)).mono (by omega) (by omega)⟩
set_option maxRecDepth 100000 in
set_option maxHeartbeats 4000000 in
theorem does3_ss (w0 w : World) (g b N M : Nat) (T L : List S23) (v : Value) (o : S46) (A2 : Option Addr) (c2 : Nat) (A3 : Option Addr) (c3 : Nat) (A4 : Option Addr) (c4 : Nat) (hs : Stt w0 w g b N M T v L) (ha : Args w0 o A2 c2 A3 c3 A4 c4) (hN : N ≤ 100000) (hM : M ≤ 900) (h0 : o.f0 = 3) (x y : S23) (hq : findT T o.f1 = some x) (hq2 : findT L o.f1 = some y) :
    Calls Try.prog 21 #[.pointer (some ⟨g, 0, none⟩), v, .agg (opV o A2 c2 A3 c3 A4 c4)] w fun e w' => DidQ w0 g (N + 80) (M + 20) T L T L e w' := by
  have HQ := Aside0.mk hq
  have HQ2 := Aside0.mk hq2
  clear hq hq2
  have hu46 := Try.underlying46
  have hu28 := Try.underlying28
  have hu33 := Try.underlying33
  have hu23 := Try.underlying23
  have hu26 := Try.underlying26
  obtain ⟨o0, o1, o2, o3, o4⟩ := o
  simp only at h0
  subst h0
  simp only [opV]
  have HA := Aside0.mk ha
  have HS := Aside0.mk (hs.below (below_alloc (Below.refl _ w) (.cells #[.int .i64 3, .int .i64 o1, .slice A2 o2.length c2, .slice A3 o3.length c3, .slice A4 o4.length c4] 46)))
  have HX := Aside0.mk (blk_new w (.cells #[.int .i64 3, .int .i64 o1, .slice A2 o2.length c2, .slice A3 o3.length c3, .slice A4 o4.length c4] 46))
  clear ha hs
  go_enter Try.func21, Try.ntmps21
  go_wp2_with (fail)
  generalize (w.alloc (.cells #[.int .i64 3, .int .i64 o1, .slice A2 o2.length c2, .slice A3 o3.length c3, .slice A4 o4.length c4] 46)) = wa at HS HX ⊢
  refine (get_some g N T o1 HA.out.seq wa HS.out.tab.tb x HQ.out).mono ?_
  rintro e w1 ⟨rfl, hb1⟩
  have HS1 := Aside0.mk ((HS.out.below hb1).below (below_alloc (Below.refl _ _) (.cells #[.int .i64 x.f0, .int .i64 x.f1, .int .i64 x.f2] 23)))
  have bx := blk_alloc (blk_below HX.out hb1) (.cells #[.int .i64 x.f0, .int .i64 x.f1, .int .i64 x.f2] 23)
  have HY := Aside0.mk (blk_new w1 (.cells #[.int .i64 x.f0, .int .i64 x.f1, .int .i64 x.f2] 23))
  have k1 : (w1.alloc (.cells #[.int .i64 x.f0, .int .i64 x.f1, .int .i64 x.f2] 23)).cell? ⟨w.heap.size, 1, none⟩ = some (.int .i64 o1) := (blk_cell bx 1).trans rfl
  clear hb1 bx HS
  obtain ⟨A, c, rfl, hc, hr⟩ := HS1.out.ref.reads
  have hLn : L.length ≤ 900 := by have := HS1.out.len; omega
  have hlm : (L.map toP).length = L.length := List.length_map _
  obtain ⟨j, hj, hfj, hxj⟩ := find_at HS1.out.good.1 HQ2.out (by omega) 200000 (by omega)
  have HF := Aside0.mk (fun W (hW : Kd.C k25 W A L.length (L.map toP)) => lighterref08_Find.calls 200000 A c (L.map toP) o1 (j : Int) W (by rw [hlm]; exact hW) (by rw [hlm]; exact hc) hfj)
  have HXJ := Aside0.mk hxj
  have hjl : (j : Int) < (L.length : Int) := by omega
  clear hfj hxj
  rw [hlm] at HF
  have HR := Aside0.mk hr
  have HC := Aside0.mk hc
  clear hr hc hlm
  go_wp2_with (fail)
  refine (HF.out _ HR.out).mono ?_
  rintro e w2 ⟨rfl, nd, rfl⟩
  have HS2 := Aside0.mk (HS1.out.below (pw_below_drewN (Below.refl _ _) nd))
  have HY2 := Aside0.mk (blk_drewN HY.out nd)
  have HR2 := Aside0.mk (Kd.C_drewN HR.out nd)
  clear HF HR HY HS1 k1
  generalize (w1.alloc (.cells #[.int .i64 x.f0, .int .i64 x.f1, .int .i64 x.f2] 23)).drewN nd = w2 at HS2 HY2 HR2 ⊢
  generalize w1.heap.size = by_ at HY2 ⊢
  have y0 : w2.cell? ⟨by_, 0, none⟩ = some (.int .i64 x.f0) := (blk_cell HY2.out 0).trans rfl
  have y1 : w2.cell? ⟨by_, 1, none⟩ = some (.int .i64 x.f1) := (blk_cell HY2.out 1).trans rfl
  have y2 : w2.cell? ⟨by_, 2, none⟩ = some (.int .i64 x.f2) := (blk_cell HY2.out 2).trans rfl
  obtain ⟨ad, rfl, -⟩ := row25_cells HR2.out j hj
  have hcj : ¬ c = j := by have := HC.out; omega
  have hjc : j < c := by have := HC.out; omega
  obtain ⟨r, hr1, hr2⟩ := same_one x y 199998
  have HRT := Aside0.mk hr2
  have HSame : Aside0 (∀ (W : World) (g1 : Nat), W.heap[g1]? = some (.cells #[.int .i64 x.f0, .int .i64 x.f1, .int .i64 x.f2] 23 (0, 0)) → Below w2.heap.size w2 W → Calls Try.prog 17 #[.slice (some ⟨g1, 0, none⟩) 1 1, .slice (some (ad.add (j * 3))) 1 (c - j)] W fun e w' => e = .returned (.bool r) ∧ Below W.heap.size W w') := ⟨fun W g1 h1 hb => by
    have hd := Kd.C_drop (m := j) (c := c) (xs := L.map toP) (by rw [List.length_map]; exact Kd.C_below HR2.out hb) (by simp; omega) (by simp; exact HC.out)
    have ht := Kd.C_take (m := 1) hd (by simp; omega)
    have e1 : ((L.map toP).drop j).take 1 = [toP y] := by
      rw [← List.map_drop, List.drop_eq_getElem_cons hj, HXJ.out]
      rfl
    rw [if_neg hcj, e1] at ht
    exact lighterlaw08_Same.calls 200000 (some ⟨g1, 0, none⟩) 1 [x] (some (ad.add (j * 3))) (c - j) [toP y] r W (reads1 h1) (by simp) ht (by simp; omega) hr1⟩
  clear hr1 hr2
  have hwj : wrap64 ((j : Int) + 1) = (j : Int) + 1 := wrap64_in _ (by omega)
  have hj1 : (0 : Int) ≤ (j : Int) + 1 := by omega
  have hj2 : (j : Int) + 1 ≤ (c : Int) := by omega
  have hj3 : ((j : Int) + 1).toNat = j + 1 := by omega
  have hj4 : j + 1 - j = 1 := by omega
  have hj5 : j ≤ j + 1 := by omega
  go_wp2_with (fail)
  refine start_ (n := 15) (S := fun w' => True) (ds := []) #[false, false, false, false, false, false, false, false, false, false, false, false, false, false, false] (by kernel_rfl) rfl rfl trivial (fun hHeld => ?_)
  refine with_tabW getss.tab19 getss.bits19 (fun HT_ HW_ => ?_)
  have HB := Aside0.mk (below_drew (Below.refl w2.heap.size w2))
  have HY := Aside0.mk (blk_below HY2.out (below_drew (Below.refl _ _)))
  generalize w2.drew = wz at HB HY hHeld ⊢
  clear hHeld
  refine pure_ (i := 0) (N := some 102) (v := ?_) (a' := ?_) #[true, false, false, false, false, false, false, false, false, false, false, false, false, false, false] rfl rfl (any_of HT_.out (by kernel_rfl)) (fun _ _ _ h => h) (Or.inl ⟨by rfl, ?_⟩) ?_ ?_
  rotate_left
  · intro w'
    go_simp
    with_reducible rfl
  rotate_left
  · simp only [Act.put, List.setIfInBounds_toArray, List.set_cons_zero, List.set_cons_succ, i64_w, i32_w]
    rfl
  refine pure_ (i := 1) (N := some 103) (v := ?_) (a' := ?_) #[true, true, false, false, false, false, false, false, false, false, false, false, false, false, false] rfl rfl (any_of HT_.out (by kernel_rfl)) (fun _ _ _ h => h) (Or.inl ⟨by rfl, ?_⟩) ?_ ?_
  rotate_left
  · intro w'
    go_simp
    with_reducible rfl
  rotate_left
  · simp only [Act.put, List.setIfInBounds_toArray, List.set_cons_zero, List.set_cons_succ, i64_w, i32_w]
    rfl
  refine pure_ (i := 2) (N := some 104) (v := ?_) (a' := ?_) #[true, true, true, false, false, false, false, false, false, false, false, false, false, false, false] rfl rfl (any_of HT_.out (by kernel_rfl)) (fun _ _ _ h => h) (Or.inl ⟨by rfl, ?_⟩) ?_ ?_
  rotate_left
  · intro w'
    go_simp
    with_reducible rfl
  rotate_left
  · simp only [Act.put, List.setIfInBounds_toArray, List.set_cons_zero, List.set_cons_succ, i64_w, i32_w]
    rfl
  refine pure_ (i := 3) (N := some 105) (v := ?_) (a' := ?_) #[true, true, true, true, false, false, false, false, false, false, false, false, false, false, false] rfl rfl (any_of HT_.out (by kernel_rfl)) (fun _ _ _ h => h) (Or.inl ⟨by rfl, ?_⟩) ?_ ?_
  rotate_left
  · intro w'
    go_simp
    with_reducible rfl
  rotate_left
  · simp only [Act.put, List.setIfInBounds_toArray, List.set_cons_zero, List.set_cons_succ, i64_w, i32_w]
    rfl
  refine pure_ (i := 6) (N := some 108) (v := ?_) (a' := ?_) #[true, true, true, true, false, false, true, false, false, false, false, false, false, false, false] rfl rfl (any_of HT_.out (by kernel_rfl)) (fun _ _ _ h => h) (Or.inl ⟨by rfl, ?_⟩) ?_ ?_
  rotate_left
  · intro w'
    go_simp
    with_reducible rfl
  rotate_left
  · simp only [Act.put, List.setIfInBounds_toArray, List.set_cons_zero, List.set_cons_succ, i64_w, i32_w]
    rfl
  refine pure_ (i := 7) (N := some 109) (v := ?_) (a' := ?_) #[true, true, true, true, false, false, true, true, false, false, false, false, false, false, false] rfl rfl (any_of HT_.out (by kernel_rfl)) (fun _ _ _ h => h) (Or.inl ⟨by rfl, ?_⟩) ?_ ?_
  rotate_left
  · intro w'
    go_simp
    with_reducible rfl
  rotate_left
  · simp only [Act.put, List.setIfInBounds_toArray, List.set_cons_zero, List.set_cons_succ, i64_w, i32_w]
    rfl
  refine pure_ (i := 8) (N := some 110) (v := ?_) (a' := ?_) #[true, true, true, true, false, false, true, true, true, false, false, false, false, false, false] rfl rfl (any_of HT_.out (by kernel_rfl)) (fun _ _ _ h => h) (Or.inl ⟨by rfl, ?_⟩) ?_ ?_
  rotate_left
  · intro w'
    go_simp
    with_reducible rfl
  rotate_left
  · simp only [Act.put, List.setIfInBounds_toArray, List.set_cons_zero, List.set_cons_succ, i64_w, i32_w]
    rfl
  refine pure_ (i := 9) (N := some 111) (v := ?_) (a' := ?_) #[true, true, true, true, false, false, true, true, true, true, false, false, false, false, false] rfl rfl (any_of HT_.out (by kernel_rfl)) (fun _ _ _ h => h) (Or.inl ⟨by rfl, ?_⟩) ?_ ?_
  rotate_left
  · intro w'
    go_simp
    with_reducible rfl
  rotate_left
  · simp only [Act.put, List.setIfInBounds_toArray, List.set_cons_zero, List.set_cons_succ, i64_w, i32_w]
    rfl
  refine pure_ (i := 10) (N := some 112) (v := ?_) (a' := ?_) #[true, true, true, true, false, false, true, true, true, true, true, false, false, false, false] rfl rfl (any_of HT_.out (by kernel_rfl)) (fun _ _ _ h => h) (Or.inl ⟨by rfl, ?_⟩) ?_ ?_
  rotate_left
  · intro w'
    go_simp
    with_reducible rfl
  rotate_left
  · simp only [Act.put, List.setIfInBounds_toArray, List.set_cons_zero, List.set_cons_succ, i64_w, i32_w]
    rfl
  refine inv_at [4, 5, 11, 12, 13, 14] (fun a0_ b a w' => ∃ (g1_ : Nat) (m5_ : Value), a = putSel a0_ b [(4, 106, .agg #[.int .i64 x.f0, .int .i64 x.f1, .int .i64 x.f2]), (5, 107, m5_), (11, 113, .bool r), (12, 114, .bool r), (13, 6, .slice (some ad) L.length c), (14, 7, .bool r)] ∧ (Below w2.heap.size w2 w') ∧ (w'.heap[by_]? = some (.cells #[.int .i64 x.f0, .int .i64 x.f1, .int .i64 x.f2] 23 (0, 0))) ∧ (b 5 = true → w'.heap[g1_]? = some (.cells #[.int .i64 x.f0, .int .i64 x.f1, .int .i64 x.f2] 23 (0, 0))) ∧ (b 5 = true → (m5_ : Value) = .slice (some ⟨g1_, 0, none⟩) 1 1)) HT_.out HW_.out (by kernel_rfl) (by kernel_rfl) ?_ ?_ ?_
  · exact ⟨0, .bool false, by simp only [putSel, Bool.false_eq_true, if_false], HB.out, HY.out, fun h_ => absurd h_ (by decide), fun h_ => absurd h_ (by decide)⟩
  · skip
    clear HB HY
    refine steps_cons ?_ ?_
    · as_aux_lemma =>
      rintro b a w' ⟨g1_, m5_, ha, Q_HB, Q_HY, Q_F1, Q_X5_⟩ hb_ hon hoff
      refine ⟨_, rfl, fun K hK => ?_⟩
      have e17 : a.tmps[17]? = some (.pointer (some ⟨by_, 0, none⟩)) := by rw [ha]; exact (putSel_off rfl).trans rfl
      have e105 : a.tmps[105]? = some (.bool true) := by rw [ha]; exact (putSel_off rfl).trans rfl
      replace ha := Aside0.mk ha
      have HB := Aside0.mk Q_HB
      have HY := Aside0.mk Q_HY
      have y0 : w'.cell? ⟨by_, 0, none⟩ = some (.int .i64 x.f0) := (blk_cell HY.out 0).trans rfl
      have y1 : w'.cell? ⟨by_, 1, none⟩ = some (.int .i64 x.f1) := (blk_cell HY.out 1).trans rfl
      have y2 : w'.cell? ⟨by_, 2, none⟩ = some (.int .i64 x.f2) := (blk_cell HY.out 2).trans rfl
      refine value_ (w1 := w') (v := .agg #[.int .i64 x.f0, .int .i64 x.f1, .int .i64 x.f2]) (wanted_on rfl rfl rfl (e105.trans (by first | rfl | (simp [*]; done)))) rfl ?_ ?_
      · go_simp
        (try simp only [i64_w])
        try rfl
      refine hK.out _ _ ⟨g1_, m5_, (by rw [ha.out]; exact putSel_upk 0 hb_ rfl rfl rfl), Q_HB, Q_HY, fun h0_ => absurd ((hoff 5 (by kernel_rfl)).symm.trans h0_) (by decide), fun h0_ => absurd ((hoff 5 (by kernel_rfl)).symm.trans h0_) (by decide)⟩
    refine steps_cons ?_ ?_
    · as_aux_lemma =>
      rintro b a w' ⟨g1_, m5_, ha, Q_HB, Q_HY, Q_F1, Q_X5_⟩ hb_ hon hoff
      refine ⟨_, rfl, fun K hK => ?_⟩
      have e106 : a.tmps[106]? = some (.agg #[.int .i64 x.f0, .int .i64 x.f1, .int .i64 x.f2]) := by rw [ha]; exact putSel_on (e := (4, 106, .agg #[.int .i64 x.f0, .int .i64 x.f1, .int .i64 x.f2])) 0 rfl rfl (hon 4 (by kernel_rfl)) rfl
      have e105 : a.tmps[105]? = some (.bool true) := by rw [ha]; exact (putSel_off rfl).trans rfl
      replace ha := Aside0.mk ha
      have HB := Aside0.mk Q_HB
      have HY := Aside0.mk Q_HY
      refine value_ (w1 := ?_) (v := ?_) (wanted_on rfl rfl rfl (e105.trans rfl)) rfl ?_ ?_
      rotate_left 2
      · go_simp
        constructor
        · rfl
        · rfl
      refine hK.out _ _ ⟨w'.heap.size, (.slice (some ⟨w'.heap.size, 0, none⟩) 1 1), (by rw [ha.out]; exact putSel_upk 1 hb_ rfl rfl rfl), below_alloc HB.out _, blk_alloc HY.out _, fun _ => blk_new _ _, fun _ => rfl⟩
    refine steps_cons ?_ ?_
    · as_aux_lemma =>
      rintro b a w' ⟨g1_, m5_, ha, Q_HB, Q_HY, Q_F1, Q_X5_⟩ hb_ hon hoff
      refine ⟨_, rfl, fun K hK => ?_⟩
      have e107 : a.tmps[107]? = some (m5_) := by rw [ha]; exact putSel_on (e := (5, 107, m5_)) 1 rfl rfl (hon 5 (by kernel_rfl)) rfl
      rw [Q_X5_ (hon 5 (by kernel_rfl))] at e107
      have e112 : a.tmps[112]? = some (.slice (some (ad.add (j * 3))) 1 (c - j)) := by rw [ha]; exact (putSel_off rfl).trans rfl
      have e105 : a.tmps[105]? = some (.bool true) := by rw [ha]; exact (putSel_off rfl).trans rfl
      replace ha := Aside0.mk ha
      have HB := Aside0.mk Q_HB
      have HY := Aside0.mk Q_HY
      have F1 := Aside0.mk (Q_F1 (hon 5 (by kernel_rfl)))
      refine goes_ Try.func17 (by kernel_rfl) rfl #[.slice (some ⟨g1_, 0, none⟩) 1 1, .slice (some (ad.add (j * 3))) 1 (c - j)] (wanted_on rfl rfl rfl (e105.trans rfl)) rfl rfl (by first | (simp only [List.map_toArray, List.map_cons, List.map_nil, Act.eval, Array.getD_eq_getD_getElem?, Option.getD_some, e107, e112, e105]; done) | (simp only [List.map_toArray, List.map_cons, List.map_nil, Act.eval, Array.getD_eq_getD_getElem?, Option.getD_some, e107, e112, e105]; rfl)) ?_
      with_reducible refine (HSame.out _ g1_ F1.out HB.out).mono ?_
      rintro e w6 ⟨rfl, hb⟩
      refine ⟨_, rfl, ?_⟩
      refine hK.out _ _ ⟨g1_, m5_, (by rw [ha.out]; exact putSel_upk 2 hb_ rfl rfl rfl), below_step HB.out hb, blk_below HY.out hb, fun _ => blk_below F1.out hb, Q_X5_⟩
    refine steps_cons ?_ ?_
    · as_aux_lemma =>
      rintro b a w' ⟨g1_, m5_, ha, Q_HB, Q_HY, Q_F1, Q_X5_⟩ hb_ hon hoff
      refine ⟨_, rfl, fun K hK => ?_⟩
      have e105 : a.tmps[105]? = some (.bool true) := by rw [ha]; exact (putSel_off rfl).trans rfl
      have e113 : a.tmps[113]? = some (.bool r) := by rw [ha]; exact putSel_on (e := (11, 113, .bool r)) 2 rfl rfl (hon 11 (by kernel_rfl)) rfl
      replace ha := Aside0.mk ha
      have HB := Aside0.mk Q_HB
      have HY := Aside0.mk Q_HY
      have F1 := Aside0.mk (Q_F1 (hon 5 (by kernel_rfl)))
      refine value_ (w1 := w') (v := .bool r) (by rfl) rfl ?_ ?_
      · go_simp
        (try simp only [i64_w])
        try rfl
      refine hK.out _ _ ⟨g1_, m5_, (by rw [ha.out]; exact putSel_upk 3 hb_ rfl rfl rfl), Q_HB, Q_HY, Q_F1, Q_X5_⟩
    refine steps_cons ?_ ?_
    · as_aux_lemma =>
      rintro b a w' ⟨g1_, m5_, ha, Q_HB, Q_HY, Q_F1, Q_X5_⟩ hb_ hon hoff
      refine ⟨_, rfl, fun K hK => ?_⟩
      have e102 : a.tmps[102]? = some (.slice (some ad) L.length c) := by rw [ha]; exact (putSel_off rfl).trans rfl
      replace ha := Aside0.mk ha
      have HB := Aside0.mk Q_HB
      have HY := Aside0.mk Q_HY
      have F1 := Aside0.mk (Q_F1 (hon 5 (by kernel_rfl)))
      refine value_ (w1 := w') (v := .slice (some ad) L.length c) (by rfl) rfl ?_ ?_
      · go_simp
        (try simp only [i64_w])
        try rfl
      refine hK.out _ _ ⟨g1_, m5_, (by rw [ha.out]; exact putSel_upk 4 hb_ rfl rfl rfl), Q_HB, Q_HY, Q_F1, Q_X5_⟩
    refine steps_cons ?_ ?_
    · as_aux_lemma =>
      rintro b a w' ⟨g1_, m5_, ha, Q_HB, Q_HY, Q_F1, Q_X5_⟩ hb_ hon hoff
      refine ⟨_, rfl, fun K hK => ?_⟩
      have e114 : a.tmps[114]? = some (.bool r) := by rw [ha]; exact putSel_on (e := (12, 114, .bool r)) 3 rfl rfl (hon 12 (by kernel_rfl)) rfl
      replace ha := Aside0.mk ha
      have HB := Aside0.mk Q_HB
      have HY := Aside0.mk Q_HY
      have F1 := Aside0.mk (Q_F1 (hon 5 (by kernel_rfl)))
      refine value_ (w1 := w') (v := .bool r) (by rfl) rfl ?_ ?_
      · go_simp
        (try simp only [i64_w])
        try rfl
      refine hK.out _ _ ⟨g1_, m5_, (by rw [ha.out]; exact putSel_upk 5 hb_ rfl rfl rfl), Q_HB, Q_HY, Q_F1, Q_X5_⟩
    exact steps_nil
  rintro b a wT hall ⟨g1_, m5_, ha, Q_HB, Q_HY, Q_F1, Q_X5_⟩
  clear HB HY
  have hb4_ := hall 4 (by kernel_rfl)
  have hb5_ := hall 5 (by kernel_rfl)
  have hb11_ := hall 11 (by kernel_rfl)
  have hb12_ := hall 12 (by kernel_rfl)
  have hb13_ := hall 13 (by kernel_rfl)
  have hb14_ := hall 14 (by kernel_rfl)
  subst ha
  obtain rfl := Q_X5_ hb5_
  simp only [putSel, hb4_, hb5_, hb11_, hb12_, hb13_, hb14_, if_true, Act.put, List.setIfInBounds_toArray, List.set_cons_zero, List.set_cons_succ]
  have HB := Aside0.mk Q_HB
  clear Q_HB
  have HY := Aside0.mk Q_HY
  clear Q_HY
  have F1 := Aside0.mk (Q_F1 hb5_)
  clear Q_F1
  clear hall hb4_ hb5_ hb11_ hb12_ hb13_ hb14_
  go_wp2_with (fail)
  go_ret2
  exact ⟨_, _, r, rfl, fun e => HRT.out (by (have h1 := HQ.out; have h2 := HQ2.out; rw [e] at h2; exact Option.some.inj (h1.symm.trans h2))), (HS2.out.below HB.out).mono (by omega) (by omega)⟩
theorem does3 (w0 w : World) (g b N M : Nat) (T L : List S23) (v : Value) (o : S46) (A2 : Option Addr) (c2 : Nat) (A3 : Option Addr) (c3 : Nat) (A4 : Option Addr) (c4 : Nat) (hs : Stt w0 w g b N M T v L) (ha : Args w0 o A2 c2 A3 c3 A4 c4) (hN : N ≤ 100000) (hM : M ≤ 900) (h0 : o.f0 = 3) :
    Calls Try.prog 21 #[.pointer (some ⟨g, 0, none⟩), v, .agg (opV o A2 c2 A3 c3 A4 c4)] w fun e w' => DidQ w0 g (N + 80) (M + 20) T L T L e w' := by
  cases hq : findT T o.f1 with
  | none =>
    cases hq2 : findT L o.f1 with
    | none => exact does3_nn w0 w g b N M T L v o A2 c2 A3 c3 A4 c4 hs ha hN hM h0 hq hq2
    | some y => exact does3_ns w0 w g b N M T L v o A2 c2 A3 c3 A4 c4 hs ha hN hM h0 y hq hq2
  | some x =>
    cases hq2 : findT L o.f1 with
    | none => exact does3_sn w0 w g b N M T L v o A2 c2 A3 c3 A4 c4 hs ha hN hM h0 x hq hq2
    | some y => exact does3_ss w0 w g b N M T L v o A2 c2 A3 c3 A4 c4 hs ha hN hM h0 x y hq hq2
set_option maxRecDepth 100000 in
set_option maxHeartbeats 4000000 in
theorem does4 (w0 w : World) (g b N M : Nat) (T L : List S23) (v : Value) (o : S46) (A2 : Option Addr) (c2 : Nat) (A3 : Option Addr) (c3 : Nat) (A4 : Option Addr) (c4 : Nat) (hs : Stt w0 w g b N M T v L) (ha : Args w0 o A2 c2 A3 c3 A4 c4) (hN : N ≤ 100000) (hM : M ≤ 900) (h0 : ¬ o.f0 = 0) (h1 : ¬ o.f0 = 1) (h2 : ¬ o.f0 = 2) (h3 : ¬ o.f0 = 3) :
    Calls Try.prog 21 #[.pointer (some ⟨g, 0, none⟩), v, .agg (opV o A2 c2 A3 c3 A4 c4)] w fun e w' => DidQ w0 g (N + 80) (M + 20) T L T L e w' := by
  have hu46 := Try.underlying46
  obtain ⟨o0, o1, o2, o3, o4⟩ := o
  simp only at h0 h1 h2 h3
  have z0 : (o0 == 0) = false := beq_eq_false_iff_ne.2 h0
  have z1 : (o0 == 1) = false := beq_eq_false_iff_ne.2 h1
  have z2 : (o0 == 2) = false := beq_eq_false_iff_ne.2 h2
  have z3 : (o0 == 3) = false := beq_eq_false_iff_ne.2 h3
  simp only [opV]
  have HA := Aside0.mk ha
  have HS := Aside0.mk (hs.below (below_alloc (Below.refl _ w) (.cells #[.int .i64 o0, .int .i64 o1, .slice A2 o2.length c2, .slice A3 o3.length c3, .slice A4 o4.length c4] 46)))
  have HX := Aside0.mk (blk_new w (.cells #[.int .i64 o0, .int .i64 o1, .slice A2 o2.length c2, .slice A3 o3.length c3, .slice A4 o4.length c4] 46))
  have HM := Aside0.mk hM
  clear ha hs h0 h1 h2 h3
  by_cases p1 : o1 < -1000000
  · as_aux_lemma =>
      go_enter Try.func21, Try.ntmps21
      go_wp2_with (fail)
      go_ret2
      exact ⟨b, v, true, rfl, fun _ => rfl, HS.out.mono (by omega) (by omega)⟩
  · by_cases p2 : 1000000 < o1
    · as_aux_lemma =>
        go_enter Try.func21, Try.ntmps21
        go_wp2_with (fail)
        go_ret2
        exact ⟨b, v, true, rfl, fun _ => rfl, HS.out.mono (by omega) (by omega)⟩
    · as_aux_lemma =>
        go_enter Try.func21, Try.ntmps21
        go_wp2_with (fail)
        generalize (w.alloc (.cells #[.int .i64 o0, .int .i64 o1, .slice A2 o2.length c2, .slice A3 o3.length c3, .slice A4 o4.length c4] 46)) = wa at HS HX ⊢
        refine (victims2 g N (by omega) T o1 (by omega) wa HS.out.tab.tb).mono ?_
        rintro e w1 ⟨v1, l1, rfl, hp1, hs1, hown, hb1⟩
        have HS1 := Aside0.mk (HS.out.below hb1)
        have HP1 := Aside0.mk hp1
        have HQ1 := Aside0.mk hs1
        have HO1 := Aside0.mk hown
        have hgood : Good T := ⟨HS.out.tab.2.sorted, HS.out.tab.2.may⟩
        have HG := Aside0.mk hgood
        have hTn : T.length ≤ 100000 := Nat.le_trans HS.out.tab.2.1 hN
        clear hp1 hs1 hown hb1 HS hgood
        go_wp2_with (fail)
        obtain ⟨A, c, rfl, hc, hr⟩ := HS1.out.ref.reads
        have hLn : L.length ≤ 900 := by have := HS1.out.len; have := HM.out; omega
        have hV := lighterref08_Victims.calls 2200000 A c (L.map toP) o1 _ w1 (by rw [List.length_map]; exact hr) (by rw [List.length_map]; exact hc) (refVictims_f L o1 (by omega) HS1.out.good.2 2200000 (by omega))
        rw [List.length_map] at hV
        refine hV.mono ?_
        rintro e w2 ⟨v2, rfl, hr2, hb2⟩
        have HS2 := Aside0.mk (HS1.out.below hb2)
        obtain ⟨A5, c5, rfl, hc5, hr5⟩ := Kd.R_reads hr2
        have hen : seqsV l1 = encs (Value.int .i64) (l1.map (·.f0)) := by
          unfold seqsV encs
          rw [List.map_map]
          rfl
        have ho1 := HO1.out
        rw [hen, show l1.length = (l1.map (·.f0)).length from (List.length_map _).symm] at ho1
        have hR6 : Kd.R (Kd.int .i64) 3 w1 wa.heap.size (fun _ => True) v1 (l1.map (·.f0)) := Kd.R_of_own ho1 (fun _ _ => trivial)
        obtain ⟨A6, c6, rfl, hc6, hr6⟩ := Kd.R_reads hR6
        have hl1 : (l1.map (·.f0)).length ≤ 100000 := by
          rw [List.length_map, HP1.out.length_eq]
          exact Nat.le_trans (List.length_filter_le _ _) hTn
        obtain ⟨r, hri, hrt⟩ : ∃ r, lighterlaw08_ints.f 200000 (l1.map (·.f0)) ((vicT o1 [] L).map (·.f0)) = some r ∧ (L = T → r = true) := by
          by_cases e : L = T
          · subst e
            rw [victims_same (by omega) HG.out HP1.out HQ1.out] at hl1 ⊢
            exact ⟨true, ints_same _ (by omega) 200000 (by omega), fun _ => rfl⟩
          · obtain ⟨r, hr⟩ := ints_some (l1.map (·.f0)) ((vicT o1 [] L).map (·.f0)) (by omega) 200000 (by omega)
            exact ⟨r, hr, fun h => absurd h e⟩
        have HI := Aside0.mk (lighterlaw08_ints.calls 200000 A6 c6 _ A5 c5 _ r w2 (Kd.C_below hr6 hb2) hc6 hr5 hc5 hri)
        rw [List.length_map, List.length_map] at HI
        have HRT := Aside0.mk hrt
        clear hr hc hV hr2 hc5 hr5 hen ho1 hR6 hc6 hr6 hri hrt hb2 hl1 HO1 HP1 HQ1
        go_wp2_with (fail)
        refine HI.out.mono ?_
        rintro e w3 ⟨rfl, nd, rfl⟩
        have HS3 := Aside0.mk (HS2.out.below (pw_below_drewN (Below.refl _ _) nd))
        clear HI HS2
        generalize w2.drewN nd = w3 at HS3 ⊢
        go_wp2_with (fail)
        go_ret2
        exact ⟨b, _, r, rfl, HRT.out, HS3.out.mono (by omega) (by omega)⟩
theorem does_calls (w0 w : World) (g b N M : Nat) (T L : List S23) (v : Value) (o : S46) (A2 : Option Addr) (c2 : Nat) (A3 : Option Addr) (c3 : Nat) (A4 : Option Addr) (c4 : Nat) (hs : Stt w0 w g b N M T v L) (ha : Args w0 o A2 c2 A3 c3 A4 c4) (hN : N ≤ 100000) (hM : M ≤ 900) :
    Calls Try.prog 21 #[.pointer (some ⟨g, 0, none⟩), v, .agg (opV o A2 c2 A3 c3 A4 c4)] w fun e w' => DidQ w0 g (N + 80) (M + 20) T L (stepT T o) (stepT L o) e w' := by
  unfold stepT
  by_cases h0 : o.f0 = 0
  · rw [if_pos h0, if_pos h0]
    exact does0 w0 w g b N M T L v o A2 c2 A3 c3 A4 c4 hs ha hN hM h0
  · by_cases h1 : o.f0 = 1
    · rw [if_neg h0, if_neg h0, if_pos h1, if_pos h1]
      exact does1 w0 w g b N M T L v o A2 c2 A3 c3 A4 c4 hs ha hN hM h1
    · by_cases h2 : o.f0 = 2
      · rw [if_neg h0, if_neg h0, if_neg h1, if_neg h1, if_pos h2, if_pos h2]
        exact does2 w0 w g b N M T L v o A2 c2 A3 c3 A4 c4 hs ha hN hM h2
      · rw [if_neg h0, if_neg h0, if_neg h1, if_neg h1, if_neg h2, if_neg h2]
        by_cases h3 : o.f0 = 3
        · exact does3 w0 w g b N M T L v o A2 c2 A3 c3 A4 c4 hs ha hN hM h3
        · exact does4 w0 w g b N M T L v o A2 c2 A3 c3 A4 c4 hs ha hN hM h0 h1 h2 h3
end Go.Proofs.Ytcjeegomonegpaa.PLivePlays
namespace Go.Proofs.Ytcjeegomonegpaa.PLivePlays
open Go.RowKit Go.Deep Go.ChangeShapes Go.WideShapes Go.Proofs.YtcjeegomonegpaaW.PrintWords Go.Proofs.YtcjeegomonegpaaW.PrintLast Go.Proofs.YtcjeegomonegpaaW.PrintMore
set_option linter.unusedVariables false
set_option linter.unusedSimpArgs false
section
variable {H : Type} {enc : TypeId × Value → H} {W : World}
theorem open_kd {α : Type} [Inhabited α] (d : Kd α) (Q : α → Prop) {t e : TypeId} (ht : Try.prog.underlying t = some (.slice e)) (hsz : Try.prog.cellsOf e = d.sz)
    (hel : ∀ n cs x, DataW.trod enc Try.prog W 0 (fun _ => true) true n e cs = some x → ∃ s, d.K W s cs ∧ Q s) {fuel : Nat} {A : Option Addr} {len c : Nat} {x : DataW H × List MemPlace}
    (h : DataW.trod enc Try.prog W 0 (fun _ => true) true fuel t [.slice A len c] = some x) : ∃ l : List α, l.length = len ∧ len ≤ c ∧ Kd.C d W A len l ∧ ∀ s ∈ l, Q s := by
  rcases open_slice ht h with ⟨h0, -⟩ | ⟨a, n, cap, m, k, D, Pl, h0, hb, hl, hm, hmm, -, hx⟩
  · simp at h0
    obtain ⟨rfl, rfl, rfl⟩ := h0
    exact ⟨[], rfl, Nat.le_refl _, ⟨rfl, by simp, fun h => absurd h (Nat.lt_irrefl 0)⟩, by simp⟩
  · simp at h0
    obtain ⟨rfl, rfl, rfl⟩ := h0
    have hlm : len ≤ m := by rw [hmm]; simp; omega
    have each : ∀ i, i < len → ∃ s : α, (∃ cs, cs.length = d.sz ∧ d.K W s cs ∧ ∀ j u, cs[j]? = some u → W.cell? (a.add (i * d.sz + j)) = some u) ∧ Q s := fun i hi => by
      obtain ⟨cs', h1, h2⟩ := hx i (by omega)
      obtain ⟨_, h3, h4⟩ := World.cells?_some h1
      obtain ⟨s, hs, hq⟩ := hel _ _ _ h2
      refine ⟨s, ⟨cs', by rw [h3, hsz], hs, fun j u hu => ?_⟩, hq⟩
      have hj : j < cs'.length := (List.getElem?_eq_some_iff.1 hu).1
      have := h4 j (by rw [h3] at hj; exact hj)
      rw [Deep.add_add, hsz] at this
      exact this.trans hu
    obtain ⟨f, hf⟩ := choose_lt each
    refine ⟨(List.range len).map f, by simp, hl, ⟨by simp, ?_, fun _ => ⟨a, rfl, fun j p hp => ?_⟩⟩, fun s hs => ?_⟩
    · have : maxLen ≤ 9223372036854775807 := by unfold maxLen; omega
      omega
    · obtain ⟨hj, e⟩ := List.getElem?_eq_some_iff.1 hp
      simp at hj e
      subst e
      exact (hf j hj).1
    · obtain ⟨j, hj, rfl⟩ := List.mem_map.1 hs
      exact (hf j (List.mem_range.1 hj)).2
theorem cellsOf3 : Try.prog.cellsOf 3 = 1 := by kernel_rfl
theorem cellsOf23 : Try.prog.cellsOf 23 = 3 := by kernel_rfl
theorem cellsOf28 : Try.prog.cellsOf 28 = 1 := by kernel_rfl
theorem cellsOf33 : Try.prog.cellsOf 33 = 1 := by kernel_rfl
theorem cellsOf46 : Try.prog.cellsOf 46 = 5 := by kernel_rfl
theorem cellsOf62 : Try.prog.cellsOf 62 = 2 := by kernel_rfl
theorem cellsOf64 : Try.prog.cellsOf 64 = 2 := by kernel_rfl
theorem cellsOf66 : Try.prog.cellsOf 66 = 4 := by kernel_rfl
theorem trod_one {n t : Nat} {cs : List Value} {i : Nat} {y : Option (DataW H × List MemPlace)} {z : DataW H × List MemPlace} (h : DataW.trod enc Try.prog W 0 (fun _ => true) true n t ((cs.drop i).take 1) = y) (hy : y = some z) {v : Value} (hv : cs[i]? = some v) : DataW.trod enc Try.prog W 0 (fun _ => true) true n t [v] = some z := by
  rw [← hy, ← h]
  obtain ⟨hi, rfl⟩ := List.getElem?_eq_some_iff.1 hv
  rw [List.drop_eq_getElem_cons hi]
  rfl
theorem int_of {n : Nat} {v : Value} {z : DataW H × List MemPlace} (h : DataW.trod enc Try.prog W 0 (fun _ => true) true n 3 [v] = some z) : ∃ a, v = .int .i64 a ∧ (Lit.int .i64 a).wf = true := by
  obtain ⟨a, e, _, hw⟩ := DataW.trod_int Try.underlying3 h
  simp at e
  exact ⟨a, e, hw⟩
set_option maxRecDepth 100000 in
theorem open_two {t n : Nat} {cs : List Value} {x : DataW H × List MemPlace} {f0 f1 : Field} (ht : Try.prog.underlying t = some (.struct #[f0, f1])) (hc : Try.prog.cellsOf t = 2) (o0 : f0.offset = 0) (o1 : f1.offset = 1) (t0 : f0.type = 3) (t1 : f1.type = 3)
    (h : DataW.trod enc Try.prog W 0 (fun _ => true) true n t cs = some x) : ∃ a b, cs = [.int .i64 a, .int .i64 b] := by
  obtain ⟨xs, m, rfl, -, hl, hxl, hf⟩ := DataW.trod_struct ht h
  rw [hc] at hl
  have h0 := hf 0 f0 rfl
  have h1 := hf 1 f1 rfl
  rw [o0, t0, cellsOf3] at h0
  rw [o1, t1, cellsOf3] at h1
  match cs, hl, xs, hxl with
  | [v0, v1], _, [y0, y1], _ =>
    obtain ⟨a, rfl, -⟩ := int_of (trod_one h0 rfl (v := v0) rfl)
    obtain ⟨b, rfl, -⟩ := int_of (trod_one h1 rfl (v := v1) rfl)
    exact ⟨a, b, rfl⟩
set_option maxRecDepth 100000 in
theorem open_row {n : Nat} {cs : List Value} {x : DataW H × List MemPlace} (h : DataW.trod enc Try.prog W 0 (fun _ => true) true n 23 cs = some x) : ∃ s : S23, k23.K W s cs ∧ (Lit.int .i64 s.f0).wf = true ∧ (Lit.int .i64 s.f1).wf = true ∧ (Lit.int .i64 s.f2).wf = true := by
  obtain ⟨xs, m, rfl, -, hl, hxl, hf⟩ := DataW.trod_struct Try.underlying23 h
  rw [cellsOf23] at hl
  have h0 : DataW.trod enc Try.prog W 0 (fun _ => true) true m 3 ((cs.drop 0).take 1) = xs[0]? := (congrArg (fun q => DataW.trod enc Try.prog W 0 (fun _ => true) true m 3 ((cs.drop 0).take q)) cellsOf3.symm).trans (hf 0 _ rfl)
  have h1 : DataW.trod enc Try.prog W 0 (fun _ => true) true m 3 ((cs.drop 1).take 1) = xs[1]? := (congrArg (fun q => DataW.trod enc Try.prog W 0 (fun _ => true) true m 3 ((cs.drop 1).take q)) cellsOf3.symm).trans (hf 1 _ rfl)
  have h2 : DataW.trod enc Try.prog W 0 (fun _ => true) true m 3 ((cs.drop 2).take 1) = xs[2]? := (congrArg (fun q => DataW.trod enc Try.prog W 0 (fun _ => true) true m 3 ((cs.drop 2).take q)) cellsOf3.symm).trans (hf 2 _ rfl)
  match cs, hl, xs, hxl with
  | [v0, v1, v2], _, [y0, y1, y2], _ =>
    obtain ⟨a, rfl, wa⟩ := int_of (trod_one h0 rfl (v := v0) rfl)
    obtain ⟨b, rfl, wb⟩ := int_of (trod_one h1 rfl (v := v1) rfl)
    obtain ⟨c, rfl, wc⟩ := int_of (trod_one h2 rfl (v := v2) rfl)
    exact ⟨⟨a, b, c⟩, k23_mk W ⟨a, b, c⟩, wa, wb, wc⟩
set_option maxRecDepth 100000 in
theorem open_ext {n : Nat} {cs : List Value} {x : DataW H × List MemPlace} (h : DataW.trod enc Try.prog W 0 (fun _ => true) true n 66 cs = some x) : ∃ s : S66, k66.K W s cs ∧ True := by
  obtain ⟨xs, m, rfl, -, hl, hxl, hf⟩ := DataW.trod_struct Try.underlying66 h
  rw [cellsOf66] at hl
  have h0 : DataW.trod enc Try.prog W 0 (fun _ => true) true m 64 ((cs.drop 0).take 2) = xs[0]? := (congrArg (fun q => DataW.trod enc Try.prog W 0 (fun _ => true) true m 64 ((cs.drop 0).take q)) cellsOf64.symm).trans (hf 0 _ rfl)
  have h1 : DataW.trod enc Try.prog W 0 (fun _ => true) true m 62 ((cs.drop 2).take 2) = xs[1]? := (congrArg (fun q => DataW.trod enc Try.prog W 0 (fun _ => true) true m 62 ((cs.drop 2).take q)) cellsOf62.symm).trans (hf 1 _ rfl)
  match cs, hl, xs, hxl with
  | [v0, v1, v2, v3], _, [y0, y1], _ =>
    have g0 : DataW.trod enc Try.prog W 0 (fun _ => true) true m 64 [v0, v1] = some y0 := h0
    have g1 : DataW.trod enc Try.prog W 0 (fun _ => true) true m 62 [v2, v3] = some y1 := h1
    obtain ⟨a, b, e0⟩ := open_two Try.underlying64 cellsOf64 rfl rfl rfl rfl g0
    obtain ⟨c, d, e1⟩ := open_two Try.underlying62 cellsOf62 rfl rfl rfl rfl g1
    simp at e0 e1
    obtain ⟨rfl, rfl⟩ := e0
    obtain ⟨rfl, rfl⟩ := e1
    exact ⟨⟨⟨a, b⟩, ⟨c, d⟩⟩, k66_mk W ⟨⟨a, b⟩, ⟨c, d⟩⟩, trivial⟩
instance : Inhabited S66 := ⟨z66⟩
instance : Inhabited S46 := ⟨z46⟩
theorem open_exts {n : Nat} {A : Option Addr} {len c : Nat} {x : DataW H × List MemPlace} (h : DataW.trod enc Try.prog W 0 (fun _ => true) true n 33 [.slice A len c] = some x) : ∃ l : List S66, l.length = len ∧ len ≤ c ∧ Kd.C k66 W A len l := by
  obtain ⟨l, h1, h2, h3, -⟩ := open_kd k66 (fun _ => True) Try.underlying33 cellsOf66 (fun _ _ _ h => open_ext h) h
  exact ⟨l, h1, h2, h3⟩
end
end Go.Proofs.Ytcjeegomonegpaa.PLivePlays
namespace Go.Proofs.Ytcjeegomonegpaa.PLivePlays
open Go.RowKit Go.Deep Go.ChangeShapes Go.WideShapes Go.Proofs.YtcjeegomonegpaaW.PrintWords Go.Proofs.YtcjeegomonegpaaW.PrintLast Go.Proofs.YtcjeegomonegpaaW.PrintMore
set_option linter.unusedVariables false
set_option linter.unusedSimpArgs false
section
variable {H : Type} {enc : TypeId × Value → H} {W : World}
theorem slice_shape {t e n : TypeId} (ht : Try.prog.underlying t = some (.slice e)) {v : Value} {x : DataW H × List MemPlace} (h : DataW.trod enc Try.prog W 0 (fun _ => true) true n t [v] = some x) : ∃ A m c, v = .slice A m c := by
  rcases open_slice ht h with ⟨h0, -⟩ | ⟨a, m, cap, _, _, _, _, h0, -⟩
  · simp at h0
    exact ⟨_, _, _, h0⟩
  · simp at h0
    exact ⟨_, _, _, h0⟩
set_option maxRecDepth 100000 in
theorem open_call {n : Nat} {cs : List Value} {x : DataW H × List MemPlace} (h : DataW.trod enc Try.prog W 0 (fun _ => true) true n 46 cs = some x) : ∃ s : S46, k46.K W s cs ∧ (Lit.int .i64 s.f1).wf = true := by
  obtain ⟨xs, m, rfl, -, hl, hxl, hf⟩ := DataW.trod_struct Try.underlying46 h
  rw [cellsOf46] at hl
  have h0 : DataW.trod enc Try.prog W 0 (fun _ => true) true m 3 ((cs.drop 0).take 1) = xs[0]? := (congrArg (fun q => DataW.trod enc Try.prog W 0 (fun _ => true) true m 3 ((cs.drop 0).take q)) cellsOf3.symm).trans (hf 0 _ rfl)
  have h1 : DataW.trod enc Try.prog W 0 (fun _ => true) true m 3 ((cs.drop 1).take 1) = xs[1]? := (congrArg (fun q => DataW.trod enc Try.prog W 0 (fun _ => true) true m 3 ((cs.drop 1).take q)) cellsOf3.symm).trans (hf 1 _ rfl)
  have h2 : DataW.trod enc Try.prog W 0 (fun _ => true) true m 28 ((cs.drop 2).take 1) = xs[2]? := (congrArg (fun q => DataW.trod enc Try.prog W 0 (fun _ => true) true m 28 ((cs.drop 2).take q)) cellsOf28.symm).trans (hf 2 _ rfl)
  have h3 : DataW.trod enc Try.prog W 0 (fun _ => true) true m 33 ((cs.drop 3).take 1) = xs[3]? := (congrArg (fun q => DataW.trod enc Try.prog W 0 (fun _ => true) true m 33 ((cs.drop 3).take q)) cellsOf33.symm).trans (hf 3 _ rfl)
  have h4 : DataW.trod enc Try.prog W 0 (fun _ => true) true m 33 ((cs.drop 4).take 1) = xs[4]? := (congrArg (fun q => DataW.trod enc Try.prog W 0 (fun _ => true) true m 33 ((cs.drop 4).take q)) cellsOf33.symm).trans (hf 4 _ rfl)
  match cs, hl, xs, hxl with
  | [v0, v1, v2, v3, v4], _, [y0, y1, y2, y3, y4], _ =>
    obtain ⟨a, rfl, wa⟩ := int_of (trod_one h0 rfl (v := v0) rfl)
    obtain ⟨b, rfl, wb⟩ := int_of (trod_one h1 rfl (v := v1) rfl)
    have g2 := trod_one h2 rfl (v := v2) rfl
    have g3 := trod_one h3 rfl (v := v3) rfl
    have g4 := trod_one h4 rfl (v := v4) rfl
    obtain ⟨A2, n2, c2, rfl⟩ := slice_shape Try.underlying28 g2
    obtain ⟨A3, n3, c3, rfl⟩ := slice_shape Try.underlying33 g3
    obtain ⟨A4, n4, c4, rfl⟩ := slice_shape Try.underlying33 g4
    obtain ⟨l2, e2, q2, r2, -⟩ := open_kd k23 (fun _ => True) Try.underlying28 cellsOf23 (fun _ _ _ h => by obtain ⟨s, hs, -⟩ := open_row h; exact ⟨s, hs, trivial⟩) g2
    obtain ⟨l3, e3, q3, r3⟩ := open_exts g3
    obtain ⟨l4, e4, q4, r4⟩ := open_exts g4
    subst e2 e3 e4
    exact ⟨⟨a, b, l2, l3, l4⟩, k46_mk W ⟨a, b, l2, l3, l4⟩ q2 r2 q3 r3 q4 r4, wb⟩
def OpsWf (l : List S46) : Prop := ∀ o ∈ l, (Lit.int .i64 o.f1).wf = true
theorem open_ops {n : Nat} {A : Option Addr} {len c : Nat} {x : DataW H × List MemPlace} (h : DataW.trod enc Try.prog W 0 (fun _ => true) true n 38 [.slice A len c] = some x) : ∃ l : List S46, l.length = len ∧ len ≤ c ∧ Kd.C k46 W A len l ∧ OpsWf l :=
  open_kd k46 (fun s => (Lit.int .i64 s.f1).wf = true) Try.underlying38 cellsOf46 (fun _ _ _ h => open_call h) h
end
end Go.Proofs.Ytcjeegomonegpaa.PLivePlays
namespace Go.Proofs.Ytcjeegomonegpaa.PLivePlays
open Go.RowKit Go.Maps Go.Sort Go.Proofs.YtcjeegomonegpaaW.PrintWords Go.Proofs.YtcjeegomonegpaaW.PrintLast Go.Proofs.YtcjeegomonegpaaW.PrintMore
set_option linter.unusedVariables false
set_option linter.unusedSimpArgs false
def FewP (l : List S46) : Prop := (∀ o ∈ l, o.f2.length ≤ 20 ∧ o.f3.length ≤ 20 ∧ o.f4.length ≤ 20) ∧ l.length ≤ 40
instance (l : List S46) : Decidable (FewP l) := by unfold FewP; infer_instance
theorem rd46_get {l : List S46} {i : Nat} (h : i < l.length) : rd_T46 l (i : Int) = l[i] := by
  unfold rd_T46
  rw [List.getD_eq_getElem?_getD, Int.toNat_natCast, List.getElem?_eq_getElem h]
  rfl
theorem few_l0 (l : List S46) (hn : l.length ≤ 9223372036854775807) : ∀ m i, i ≤ l.length → l.length - i ≤ m → (∀ j (h : j < l.length), j < i → l[j].f2.length ≤ 20 ∧ l[j].f3.length ≤ 20 ∧ l[j].f4.length ≤ 20) → ∀ k, m ≤ k → lighterlaw08_Few.l0 (k + 1) l (i : Int) = some (decide (FewP l)) := by
  intro m
  induction m with
  | zero =>
    intro i hi hm hb k hk
    have e : i = l.length := by omega
    subst e
    unfold lighterlaw08_Few.l0
    rw [if_neg (by omega)]
    congr 1
    refine decide_eq_decide.2 ⟨fun h => ⟨fun o ho => ?_, by omega⟩, fun h => by have := h.2; omega⟩
    obtain ⟨j, hj, rfl⟩ := List.getElem_of_mem ho
    exact hb j hj hj
  | succ m ih =>
    intro i hi hm hb k hk
    unfold lighterlaw08_Few.l0
    by_cases h : i < l.length
    · obtain ⟨k1, rfl⟩ : ∃ k1, k = k1 + 1 := ⟨k - 1, by omega⟩
      rw [if_pos (by omega), if_pos (by omega), rd46_get h]
      by_cases h2 : l[i].f2.length ≤ 20
      · rw [if_neg (by omega)]
        by_cases h3 : l[i].f3.length ≤ 20
        · rw [if_neg (by omega)]
          by_cases h4 : l[i].f4.length ≤ 20
          · have hw : wrap64 ((i : Int) + 1) = ((i + 1 : Nat) : Int) := by rw [wrap64_in _ (by omega)]; omega
            rw [if_neg (by omega), hw]
            refine ih (i + 1) h (by omega) (fun j hj hji => ?_) k1 (by omega)
            by_cases e : j = i
            · subst e
              exact ⟨h2, h3, h4⟩
            · exact hb j hj (by omega)
          · rw [if_pos (by omega)]
            exact congrArg some (decide_eq_false (fun h => h4 (h.1 _ (List.getElem_mem _)).2.2)).symm
        · rw [if_pos (by omega)]
          exact congrArg some (decide_eq_false (fun h => h3 (h.1 _ (List.getElem_mem _)).2.1)).symm
      · rw [if_pos (by omega)]
        exact congrArg some (decide_eq_false (fun h => h2 (h.1 _ (List.getElem_mem _)).1)).symm
    · have e : i = l.length := by omega
      subst e
      rw [if_neg (by omega)]
      congr 1
      refine decide_eq_decide.2 ⟨fun h => ⟨fun o ho => ?_, by omega⟩, fun h => by have := h.2; omega⟩
      obtain ⟨j, hj, rfl⟩ := List.getElem_of_mem ho
      exact hb j hj hj
theorem few_f (l : List S46) (hn : l.length ≤ 9223372036854775807) (k : Nat) (hk : l.length < k) : lighterlaw08_Few.f k l = some (decide (FewP l)) := by
  obtain ⟨k1, rfl⟩ : ∃ k1, k = k1 + 1 := ⟨k - 1, by omega⟩
  exact few_l0 l hn l.length 0 (by omega) (by omega) (fun j _ h => absurd h (Nat.not_lt_zero _)) k1 (by omega)
theorem few_calls (A : Option Addr) (c : Nat) (l : List S46) (w : World) (hr : Kd.C k46 w A l.length l) (hc : l.length ≤ c) : Calls Try.prog 20 #[.slice A l.length c] w fun e w' => e = .returned (.bool (decide (FewP l))) ∧ Below w.heap.size w w' := by
  exact (lighterlaw08_Few.calls (l.length + 1) A c l _ w hr hc (few_f l hr.2.1 _ (Nat.lt_succ_self _))).mono fun e w' ⟨h1, h2⟩ => ⟨h1, h2.below⟩
theorem args_at {w : World} {A : Option Addr} {l : List S46} (hr : Kd.C k46 w A l.length l) (hf : FewP l) (hw : OpsWf l) (k : Nat) (hk : k < l.length) : ∃ ad A2 c2 A3 c3 A4 c4, A = some ad ∧ w.cell? (ad.add (k * 5)) = some (.int .i64 l[k].f0) ∧ w.cell? ⟨(ad.add (k * 5)).block, (ad.add (k * 5)).off + 1, none⟩ = some (.int .i64 l[k].f1) ∧ w.cell? ⟨(ad.add (k * 5)).block, (ad.add (k * 5)).off + 2, none⟩ = some (.slice A2 l[k].f2.length c2) ∧ w.cell? ⟨(ad.add (k * 5)).block, (ad.add (k * 5)).off + 3, none⟩ = some (.slice A3 l[k].f3.length c3) ∧ w.cell? ⟨(ad.add (k * 5)).block, (ad.add (k * 5)).off + 4, none⟩ = some (.slice A4 l[k].f4.length c4) ∧ Args w l[k] A2 c2 A3 c3 A4 c4 := by
  obtain ⟨ad, A2, c2, A3, c3, A4, c4, e, h0, h1, h2, h3, h4, l2, g2, l3, g3, l4, g4⟩ := at_T46 hr (k : Int) (by omega) (by omega)
  rw [rd46_get hk, Int.toNat_natCast] at h0 h1 h2 h3 h4
  rw [rd46_get hk] at l2 g2 l3 g3 l4 g4
  obtain ⟨n2, n3, n4⟩ := hf.1 l[k] (List.getElem_mem hk)
  exact ⟨ad, A2, c2, A3, c3, A4, c4, e, h0, h1, h2, h3, h4, ⟨hw _ (List.getElem_mem hk), n2, n3, n4, l2, l3, l4, g2, g3, g4⟩⟩
theorem cell_below {w w' : World} (h : Below w.heap.size w w') {a : Addr} {v : Value} (hc : w.cell? a = some v) : w'.cell? a = some v := by
  have := h.block a.block (World.block_lt_of_cell? w a hc)
  simpa [World.cell?, this] using hc
theorem newS (w0 w : World) (hb : Below w0.heap.size w0 w) : Calls Try.prog 19 #[] w fun e w' => ∃ g b, e = .returned (.pointer (some ⟨g, 0, none⟩)) ∧ Stt w0 w' g b 0 0 [] (.slice none 0 0) [] :=
  (newB w).mono fun e w' ⟨g, b, he, h1, h2, h3, h4⟩ => ⟨g, b, he, {
    bel := below_step hb h4
    hg := Nat.le_trans hb.size h1
    hb := Nat.le_trans hb.size h2
    gb := fun e => by
      have h5 := h3.1
      obtain ⟨_, D, ⟨es, clock, h6, _⟩, _⟩ := h3.2
      rw [e, h6] at h5
      simp at h5
    tab := h3
    ref := RefV.nil _ _
    gv := by simp [Value.ownBlock]
    bv := by simp [Value.ownBlock]
    good := Good.nil
    len := Nat.le_refl _ }⟩
end Go.Proofs.Ytcjeegomonegpaa.PLivePlays
namespace Go.Proofs.Ytcjeegomonegpaa.PLivePlays
open Go.RowKit Go.Maps Go.Sort Go.Proofs.YtcjeegomonegpaaW.PrintWords Go.Proofs.YtcjeegomonegpaaW.PrintLast Go.Proofs.YtcjeegomonegpaaW.PrintMore
set_option linter.unusedVariables false
set_option linter.unusedSimpArgs false
theorem Stt.forget {w0 w : World} {g b N M M' : Nat} {T L : List S23} {v : Value} (h : Stt w0 w g b N M T v L) : Stt w0 w g b N M' T (.slice none 0 0) [] :=
  { h with ref := RefV.nil _ _, gv := by simp [Value.ownBlock], bv := by simp [Value.ownBlock], good := Good.nil, len := Nat.zero_le _ }
end Go.Proofs.Ytcjeegomonegpaa.PLivePlays
namespace Go.Proofs.Ytcjeegomonegpaa.PLivePlays
open Go.RowKit Go.Maps Go.Sort Go.Proofs.YtcjeegomonegpaaW.PrintWords Go.Proofs.YtcjeegomonegpaaW.PrintLast Go.Proofs.YtcjeegomonegpaaW.PrintMore
set_option linter.unusedVariables false
set_option linter.unusedSimpArgs false
def numE : List S66 → Int
  | [] => 0
  | x :: l => (if x.f1.f0 = 0 then 0 else x.f0.f1) + numE l
theorem numE_snoc (x : S66) : ∀ l : List S66, numE (l ++ [x]) = numE l + (if x.f1.f0 = 0 then 0 else x.f0.f1)
  | [] => by simp [numE]
  | y :: l => by
    simp only [List.cons_append, numE, numE_snoc x l]
    omega
theorem numE_bound : ∀ l : List S66, (∀ x ∈ l, MayE x) → 0 ≤ numE l ∧ numE l ≤ 65536 * (l.length : Int)
  | [], _ => by simp [numE]
  | x :: l, h => by
    obtain ⟨h1, h2⟩ := numE_bound l fun y hy => h y (List.mem_cons_of_mem _ hy)
    obtain ⟨m1, m2, m3, m4⟩ := h x List.mem_cons_self
    simp only [numE, List.length_cons]
    split <;> omega
theorem findT_cons (y : S23) (T : List S23) (k : Int) : findT (y :: T) k = if y.f0 = k then some y else findT T k := by
  unfold findT
  by_cases e : y.f0 = k
  · rw [if_pos e, List.find?_cons_of_pos (by simpa using e)]
  · rw [if_neg e, List.find?_cons_of_neg (by simpa using e)]
theorem val_cons (y : S23) (T : List S23) (k : Int) : valT (y :: T) k = if y.f0 = k then y.f1 else valT T k := by
  unfold valT
  rw [findT_cons]
  split <;> rfl
theorem val_zero {T : List S23} {k : Int} (h : ∀ z ∈ T, z.f0 ≠ k) : valT T k = 0 := val_none (find_none_iff.2 h)
theorem sumT_put (x : S23) : ∀ {T : List S23}, T.Pairwise (fun x y => x.f0 < y.f0) → (sumT (putT x T)).1 = (sumT T).1 - valT T x.f0 + x.f1
  | [], _ => by simp [putT, sumT, valT, findT]
  | y :: T, h => by
    obtain ⟨h1, h2⟩ := List.pairwise_cons.1 h
    unfold putT
    rw [val_cons]
    by_cases a : x.f0 < y.f0
    · rw [if_pos a, if_neg (by omega), val_zero (fun z hz => by have := h1 z hz; omega)]
      simp only [sumT]; omega
    · rw [if_neg a]
      by_cases b : x.f0 = y.f0
      · rw [if_pos b, if_pos b.symm]
        simp only [sumT]; omega
      · rw [if_neg b, if_neg (fun e => b e.symm)]
        simp only [sumT, sumT_put x h2]; omega
theorem cntE_sum : ∀ (l : List S66) {T : List S23}, T.Pairwise (fun x y => x.f0 < y.f0) → (sumT (cntE T l)).1 = (sumT T).1 + numE l
  | [], T, _ => by simp [cntE, numE]
  | x :: l, T, h => by
    simp only [cntE, numE]
    by_cases e : x.f1.f0 = 0
    · have e1 : addE T x = T := by unfold addE; rw [if_pos e]
      rw [e1, cntE_sum l h, if_pos e]; omega
    · have e1 : addE T x = putT ⟨x.f1.f0, valT T x.f1.f0 + x.f0.f1, valT T x.f1.f0 + x.f0.f1⟩ T := by unfold addE; rw [if_neg e]
      rw [e1, cntE_sum l (putT_sorted h), if_neg e, sumT_put _ h]
      simp only
      omega
def sumV (A : List S23) : List S23 → Int
  | [] => 0
  | r :: T => valT A r.f0 + sumV A T
theorem sumV_nil : ∀ T, sumV [] T = 0
  | [] => rfl
  | r :: T => by simp [sumV, sumV_nil T, valT, findT]
theorem sumV_cons {A : List S23} (x : S23) (hA : ∀ y ∈ A, y.f0 ≠ x.f0) : ∀ {T : List S23}, T.Pairwise (fun x y => x.f0 < y.f0) → sumV (x :: A) T = sumV A T + (if (findT T x.f0).isSome then x.f1 else 0)
  | [], _ => by simp [sumV, findT]
  | r :: T, h => by
    obtain ⟨h1, h2⟩ := List.pairwise_cons.1 h
    simp only [sumV]
    rw [sumV_cons x hA h2, val_cons, findT_cons]
    by_cases e : x.f0 = r.f0
    · rw [if_pos e, if_pos e.symm]
      have z1 : valT A r.f0 = 0 := val_zero (fun y hy => by rw [← e]; exact hA y hy)
      have z2 : findT T x.f0 = none := find_none_iff.2 fun z hz => by have := h1 z hz; omega
      rw [z1, z2]
      simp
      omega
    · rw [if_neg (c := x.f0 = r.f0) e, if_neg (c := r.f0 = x.f0) (fun q => e q.symm)]
      omega
theorem sumV_known : ∀ {A T : List S23}, A.Pairwise (fun x y => x.f0 < y.f0) → T.Pairwise (fun x y => x.f0 < y.f0) → Known T A → sumV A T = (sumT A).1
  | [], T, _, _, _ => by rw [sumV_nil]; rfl
  | x :: A, T, hA, hT, hk => by
    obtain ⟨h1, h2⟩ := List.pairwise_cons.1 hA
    obtain ⟨k1, k2⟩ := known_cons.1 hk
    rw [sumV_cons x (fun y hy => by have := h1 y hy; omega) hT, sumV_known h2 hT k2, if_pos k1]
    rfl
theorem chgT_sum (more less : List S66) : ∀ T : List S23, sumT (chgT T more less) = ((sumT T).1, (sumT T).2 + (sumV (cntE [] more) T - sumV (cntE [] less) T))
  | [] => by simp [chgT, sumT, sumV]
  | r :: T => by
    have e : chgT (r :: T) more less = ⟨r.f0, r.f1, r.f2 + (valT (cntE [] more) r.f0 - valT (cntE [] less) r.f0)⟩ :: chgT T more less := rfl
    rw [e]
    simp only [sumT, sumV, chgT_sum more less T]
    refine Prod.ext rfl ?_
    simp only
    omega
theorem chgR_ok {T : List S23} {more less : List S66} (h : (chgR T more less).2 = 0) : ((∀ x ∈ more, MayE x) ∧ ∀ x ∈ less, MayE x) ∧ (Known T (cntE [] more) ∧ Known T (cntE [] less)) ∧ (∀ r ∈ chgT T more less, MayR r) ∧ chgR T more less = (chgT T more less, 0) := by
  unfold chgR at h ⊢
  by_cases a : (∀ x ∈ more, MayE x) ∧ ∀ x ∈ less, MayE x
  · rw [if_pos a] at h ⊢
    by_cases b : Known T (cntE [] more) ∧ Known T (cntE [] less)
    · rw [if_pos b] at h ⊢
      by_cases d : ∀ r ∈ chgT T more less, MayR r
      · rw [if_pos d]
        exact ⟨a, b, d, rfl⟩
      · rw [if_neg d] at h; exact absurd h (by simp)
    · rw [if_neg b] at h; exact absurd h (by simp)
  · rw [if_neg a] at h; exact absurd h (by simp)
theorem chgR_bad {T : List S23} {more less : List S66} (h : (chgR T more less).2 ≠ 0) : (chgR T more less).1 = T := by
  unfold chgR at h ⊢
  by_cases a : (∀ x ∈ more, MayE x) ∧ ∀ x ∈ less, MayE x
  · rw [if_pos a] at h ⊢
    by_cases b : Known T (cntE [] more) ∧ Known T (cntE [] less)
    · rw [if_pos b] at h ⊢
      by_cases d : ∀ r ∈ chgT T more less, MayR r
      · rw [if_pos d] at h; exact absurd rfl h
      · rw [if_neg d]
    · rw [if_neg b]
  · rw [if_neg a]
theorem chgT_find (T : List S23) (more less : List S66) (k : Int) : findT (chgT T more less) k = (findT T k).map fun r => ⟨r.f0, r.f1, r.f2 + (valT (cntE [] more) r.f0 - valT (cntE [] less) r.f0)⟩ := by
  unfold chgT findT
  rw [List.find?_map]
  rfl
theorem chgT_known {T A : List S23} {more less : List S66} (h : Known T A) : Known (chgT T more less) A := fun x hx => by
  rw [chgT_find, Option.isSome_map]; exact h x hx
theorem chgT_back (T : List S23) (more less : List S66) : chgT (chgT T more less) less more = T := by
  unfold chgT
  rw [List.map_map]
  conv => rhs; rw [← List.map_id T]
  refine List.map_congr_left fun r _ => ?_
  obtain ⟨a, b, c⟩ := r
  simp only [Function.comp, id]
  congr 1
  omega
theorem chgR_back {T : List S23} {more less : List S66} (hG : Good T) (h : (chgR T more less).2 = 0) : chgR (chgT T more less) less more = (T, 0) := by
  obtain ⟨⟨a1, a2⟩, ⟨b1, b2⟩, _, _⟩ := chgR_ok h
  unfold chgR
  rw [if_pos ⟨a2, a1⟩, if_pos ⟨chgT_known b2, chgT_known b1⟩, chgT_back, if_pos hG.2]
theorem chgR_sum {T : List S23} {more less : List S66} (hG : Good T) (h : (chgR T more less).2 = 0) : sumT (chgT T more less) = ((sumT T).1, (sumT T).2 + (numE more - numE less)) := by
  obtain ⟨_, ⟨b1, b2⟩, _, _⟩ := chgR_ok h
  rw [chgT_sum, sumV_known (cntE_sorted more List.Pairwise.nil) hG.1 b1, sumV_known (cntE_sorted less List.Pairwise.nil) hG.1 b2, cntE_sum more List.Pairwise.nil, cntE_sum less List.Pairwise.nil]
  simp [sumT]
theorem SlR.grown {w w' : World} {base : Nat} {v : Value} {l : List S23} {j : Nat} (h : SlR w base v l) (hg : w.grownBy w' (some j)) (hj : j < base) : SlR w' base v l := by
  rcases h with ⟨rfl, rfl⟩ | ⟨g, o, cap, rfl, h1, h2, hc, hh⟩
  · exact .inl ⟨rfl, rfl⟩
  · exact .inr ⟨g, o, cap, rfl, h1, Nat.lt_of_lt_of_le h2 hg.size, hc, holds_grown hh hg h2 (fun e => by obtain rfl := Option.some.inj e; omega)⟩
end Go.Proofs.Ytcjeegomonegpaa.PLivePlays
namespace Go.Proofs.Ytcjeegomonegpaa.PLivePlays
open Go.RowKit Go.Maps Go.Sort Go.Proofs.YtcjeegomonegpaaW.PrintWords Go.Proofs.YtcjeegomonegpaaW.PrintLast Go.Proofs.YtcjeegomonegpaaW.PrintMore
set_option linter.unusedVariables false
set_option linter.unusedSimpArgs false
set_option maxRecDepth 100000 in
set_option maxHeartbeats 40000000 in
theorem back_walk (A : Option Addr) (c : Nat) (l : List S46) (A1 : Option Addr) (c1 : Nat) (more : List S66) (A2 : Option Addr) (c2 : Nat) (less : List S66) (w : World) (hc : l.length ≤ c) (hr : Kd.C k46 w A l.length l) (hw : OpsWf l) (hr1 : Kd.C k66 w A1 more.length more) (hr2 : Kd.C k66 w A2 less.length less) :
    Calls Try.prog 8 #[.slice A l.length c, .slice A1 more.length c1, .slice A2 less.length c2] w fun e w' => e = .returned (.bool true) ∧ Below w.heap.size w w' := by
  have hu46 := Try.underlying46
  have hu23 := Try.underlying23
  have hu25 := Try.underlying25
  have hu26 := Try.underlying26
  have hu28 := Try.underlying28
  have hu33 := Try.underlying33
  have hu38 := Try.underlying38
  have hu66 := Try.underlying66
  have hu64 := Try.underlying64
  have hu62 := Try.underlying62
  have hmx : l.length ≤ 9223372036854775807 := hr.2.1
  have hmx1 : more.length ≤ 9223372036854775807 := hr1.2.1
  have hmx2 : less.length ≤ 9223372036854775807 := hr2.2.1
  have HR := Aside0.mk hr
  have HR1 := Aside0.mk hr1
  have HR2 := Aside0.mk hr2
  have HC := Aside0.mk hc
  have HW := Aside0.mk hw
  have HFew := fun W (hb : Below w.heap.size w W) => few_calls A c l W (Kd.C_below hr hb) hc
  clear hr hr1 hr2 hc hw
  by_cases hf : FewP l
  · rw [decide_eq_true hf] at HFew
    have HF := Aside0.mk hf
    have HFew := Aside0.mk HFew
    clear hf
    by_cases hm1 : more.length ≤ 20
    · have g1 : decide ((more.length : Int) > 20) = false := by simp; omega
      by_cases hm2 : less.length ≤ 20
      · have g2 : decide ((less.length : Int) > 20) = false := by simp; omega
        as_aux_lemma =>
          go_enter Try.func8, Try.ntmps8
          go_wp2_with (fail)
          refine (newS w w (Below.refl _ _)).mono ?_
          rintro e w1 ⟨g, b, rfl, hs⟩
          have HS1 := Aside0.mk hs
          clear hs
          go_wp2_with (fail)
          refine (HFew.out w1 HS1.out.bel).mono ?_
          rintro e w2 ⟨rfl, hb2⟩
          have HS2 := Aside0.mk (HS1.out.below hb2)
          clear hb2 HS1
          go_wp2_with (fail)
          have HL1 := Aside0.mk hm1
          have HL2 := Aside0.mk hm2
          go_loopg [8] l.length (fun kx v8 wr => ∃ (i b N : Nat) (T : List S23), v8 = .int .i64 (i : Int) ∧ i ≤ l.length ∧ l.length - i ≤ kx ∧ N ≤ 80 * i ∧ Aside0 (Stt w wr g b N (20 * i) T (.slice none 0 0) []))
          case atStart => exact ⟨0, b, 0, [], rfl, Nat.zero_le _, by omega, by omega, HS2⟩
          case round =>
            clear HS2
            obtain ⟨i, b, N, T, rfl, hi, hik, hN, HS⟩ := hrel
            have hl40 : l.length ≤ 40 := HF.out.2
            by_cases hlt : i < l.length
            · as_aux_lemma =>
                obtain ⟨ad, A2, c2, A3, c3, A4, c4, rfl, k0, k1, k2, k3, k4, ha⟩ := args_at HR.out HF.out HW.out i hlt
                replace k0 := cell_below HS.out.bel k0
                replace k1 := cell_below HS.out.bel k1
                replace k2 := cell_below HS.out.bel k2
                replace k3 := cell_below HS.out.bel k3
                replace k4 := cell_below HS.out.bel k4
                have HD := Aside0.mk (does_calls w wr g b N (20 * i) T [] (.slice none 0 0) l[i] A2 c2 A3 c3 A4 c4 HS.out ha (by omega) (by omega))
                clear ha
                go_wp2_with (fail)
                refine HD.out.mono ?_
                rintro e w3 ⟨b', v', ok, rfl, -, hs3⟩
                have HS3 := Aside0.mk (hs3.forget (M' := 20 * (i + 1)))
                clear hs3 k0 k1 k2 k3 k4 HD
                go_wp2_with (fail)
                go_roundg (gk - 1)
                case measure => omega
                case rel => exact ⟨i + 1, b', N + 80, _, by go_num, hlt, by omega, by omega, HS3⟩
            · as_aux_lemma =>
                have hil : i = l.length := by omega
                subst hil
                clear hlt
                have hN2 : N ≤ 3200 := by omega
                have hTn : T.length ≤ 3200 := Nat.le_trans HS.out.tab.2.1 hN2
                have HG := Aside0.mk (show Good T from ⟨HS.out.tab.2.sorted, HS.out.tab.2.may⟩)
                go_wp2_with (fail)
                refine (rows2 g N (by omega) T wr HS.out.tab.tb).mono ?_
                rintro e w4 ⟨v4, rfl, hv4, hb4⟩
                have HS4 := Aside0.mk (HS.out.below hb4)
                have HV4 := Aside0.mk hv4
                obtain ⟨A4, c4, rfl, hc4, hr4⟩ := hv4.reads (by omega)
                have hgw : g < wr.heap.size := blk_lt HS.out.tab.1
                have HGW := Aside0.mk hgw
                clear hv4 hb4 hr4 HS hgw
                have HSm := Aside0.mk (sum_calls g N (by omega) T w4 HS4.out.tab.tb)
                go_wp2_with (fail)
                refine HSm.out.mono ?_
                rintro e w5 ⟨rfl, hb5⟩
                have HS5 := Aside0.mk (HS4.out.below hb5)
                have HV5 := Aside0.mk (HV4.out.below hb5)
                clear hb5 HSm HS4 HV4
                have HCh := Aside0.mk (change_calls g b N (by omega) T A1 c1 more A2 c2 less (by omega) (by omega) w5 HS5.out.tab (Kd.C_below HR1.out HS5.out.bel) (Kd.C_below HR2.out HS5.out.bel))
                by_cases hz : (chgR T more less).2 = 0
                · rw [hz] at HCh
                  have HZ := Aside0.mk hz
                  obtain ⟨⟨ha1, ha2⟩, -, hmay, hqq⟩ := chgR_ok hz
                  rw [hqq] at HCh
                  have HQB := Aside0.mk (chgR_back HG.out hz)
                  have HQS := Aside0.mk (chgR_sum HG.out hz)
                  have HA1 := Aside0.mk ha1
                  have HA2 := Aside0.mk ha2
                  have hb1 := numE_bound more ha1
                  have hb2 := numE_bound less ha2
                  have hsb := sumT_bound T HG.out.2
                  have HB1 := Aside0.mk hb1
                  have HB2 := Aside0.mk hb2
                  have HSB := Aside0.mk hsb
                  clear hz ha1 ha2 hmay hqq hb1 hb2 hsb
                  as_aux_lemma =>
                    generalize hT' : chgT T more less = T' at HCh HQB HQS
                    go_wp2_with (fail)
                    refine HCh.out.mono ?_
                    rintro e w6 ⟨rfl, b6, hb6, ht6, hg6⟩
                    have HS6 := Aside0.mk (HS5.out.tabs hb6 ht6 hg6 (.inl rfl))
                    have HV6 := Aside0.mk (HV5.out.grown hg6 HGW.out)
                    clear hb6 ht6 hg6 HCh HS5 HV5
                    go_wp2_with (fail)
                    go_loopg [12, 13] more.length (fun kx v12 v13 wr => ∃ k : Nat, v13 = .int .i64 (k : Int) ∧ k ≤ more.length ∧ more.length - k ≤ kx ∧ v12 = .int .i64 (numE (more.take k)) ∧ Aside0 (Below w6.heap.size w6 wr))
                    case atStart => exact ⟨0, rfl, Nat.zero_le _, by omega, rfl, ⟨Below.refl _ _⟩⟩
                    case round =>
                      obtain ⟨k, rfl, hk, hkk, rfl, HB⟩ := hrel
                      by_cases hltk : k < more.length
                      · as_aux_lemma =>
                          obtain ⟨ad5, rfl, h0, h1, h2, h3⟩ := ext_cells (Kd.C_below HR1.out (below_step HS6.out.bel HB.out)) k hltk
                          have hk1 : k + 1 ≤ more.length := hltk
                          have hst : numE (more.take (k + 1)) = numE (more.take k) + (if more[k].f1.f0 = 0 then 0 else more[k].f0.f1) := by
                            rw [List.take_add_one, List.getElem?_eq_getElem hltk]
                            exact numE_snoc _ _
                          have HST := Aside0.mk hst
                          obtain ⟨b1, b2⟩ := numE_bound (more.take k) fun x hx => HA1.out x (List.mem_of_mem_take hx)
                          have hlen : (more.take k).length ≤ 20 := by simp; have := HL1.out; omega
                          obtain ⟨m1, m2, m3, m4, m5, m6, m7⟩ := HA1.out more[k] (List.getElem_mem _)
                          have B1 := HB1.out
                          have B2 := HB2.out
                          clear hst
                          generalize more[k] = x at h0 h1 h2 h3 m1 m2 m3 m4 m5 m6 m7 HST
                          generalize numE (more.take k) = s1 at b1 b2 HST ⊢
                          obtain ⟨⟨x0, x1⟩, ⟨x2, x3⟩⟩ := x
                          simp only at h0 h1 h2 h3 m1 m2 m3 m4 m5 m6 m7
                          have hw1 : IntKind.i64.wrap (s1 + x1) = s1 + x1 := IntWalk.i64_in _ (by have := HL1.out; have := HL2.out; omega)
                          by_cases hz : x2 = 0
                          · have hzb : (x2 != 0) = false := by simp [hz]
                            have HZ0 := Aside0.mk hz
                            clear hz
                            as_aux_lemma =>
                              go_wp2_with (fail)
                              go_roundg (gk - 1)
                              case measure => omega
                              case rel => exact ⟨k + 1, by go_num, hk1, by omega, by rw [HST.out, if_pos HZ0.out]; simp, HB⟩
                          · have hzb : (x2 != 0) = true := by simpa using hz
                            have HZ0 := Aside0.mk hz
                            clear hz
                            as_aux_lemma =>
                              go_wp2_with (fail)
                              go_roundg (gk - 1)
                              case measure => omega
                              case rel => exact ⟨k + 1, by go_num, hk1, by omega, by rw [HST.out, if_neg HZ0.out], HB⟩
                      · as_aux_lemma =>
                          have hkl : k = more.length := by omega
                          subst hkl
                          rw [List.take_length]
                          have HS7 := Aside0.mk (HS6.out.below HB.out)
                          have HV7 := Aside0.mk (HV6.out.below HB.out)
                          clear HB HS6 HV6 hltk hk hkk
                          obtain ⟨wq, hwq⟩ : ∃ wq, wq = wr := ⟨_, rfl⟩
                          subst hwq
                          go_wp2_with (fail)
                          go_loopg [12, 14] less.length (fun kx v12 v13 wr => ∃ k : Nat, v13 = .int .i64 (k : Int) ∧ k ≤ less.length ∧ less.length - k ≤ kx ∧ v12 = .int .i64 (numE more - numE (less.take k)) ∧ Aside0 (Below wq.heap.size wq wr))
                          case atStart => exact ⟨0, rfl, Nat.zero_le _, by omega, by simp [numE], ⟨Below.refl _ _⟩⟩
                          case round =>
                            obtain ⟨k, rfl, hk, hkk, rfl, HB⟩ := hrel
                            by_cases hltk : k < less.length
                            · as_aux_lemma =>
                                obtain ⟨ad5, rfl, h0, h1, h2, h3⟩ := ext_cells (Kd.C_below HR2.out (below_step HS7.out.bel HB.out)) k hltk
                                have hk1 : k + 1 ≤ less.length := hltk
                                have hst : numE (less.take (k + 1)) = numE (less.take k) + (if less[k].f1.f0 = 0 then 0 else less[k].f0.f1) := by
                                  rw [List.take_add_one, List.getElem?_eq_getElem hltk]
                                  exact numE_snoc _ _
                                have HST := Aside0.mk hst
                                obtain ⟨b1, b2⟩ := numE_bound (less.take k) fun x hx => HA2.out x (List.mem_of_mem_take hx)
                                have hlen : (less.take k).length ≤ 20 := by simp; have := HL2.out; omega
                                obtain ⟨m1, m2, m3, m4, m5, m6, m7⟩ := HA2.out less[k] (List.getElem_mem _)
                                have B1 := HB1.out
                                have B2 := HB2.out
                                clear hst
                                generalize less[k] = x at h0 h1 h2 h3 m1 m2 m3 m4 m5 m6 m7 HST
                                generalize numE (less.take k) = s1 at b1 b2 HST ⊢
                                obtain ⟨⟨x0, x1⟩, ⟨x2, x3⟩⟩ := x
                                simp only at h0 h1 h2 h3 m1 m2 m3 m4 m5 m6 m7
                                have hw1 : IntKind.i64.wrap (numE more - s1 - x1) = numE more - s1 - x1 := IntWalk.i64_in _ (by have := HL1.out; have := HL2.out; omega)
                                by_cases hz : x2 = 0
                                · have hzb : (x2 != 0) = false := by simp [hz]
                                  have HZ0 := Aside0.mk hz
                                  clear hz
                                  as_aux_lemma =>
                                    go_wp2_with (fail)
                                    go_roundg (gk - 1)
                                    case measure => omega
                                    case rel => exact ⟨k + 1, by go_num, hk1, by omega, by rw [HST.out, if_pos HZ0.out]; simp, HB⟩
                                · have hzb : (x2 != 0) = true := by simpa using hz
                                  have HZ0 := Aside0.mk hz
                                  clear hz
                                  as_aux_lemma =>
                                    go_wp2_with (fail)
                                    go_roundg (gk - 1)
                                    case measure => omega
                                    case rel => exact ⟨k + 1, by go_num, hk1, by omega, by rw [HST.out, if_neg HZ0.out]; rw [Int.sub_sub], HB⟩
                            · as_aux_lemma =>
                                have hkl : k = less.length := by omega
                                subst hkl
                                rw [List.take_length]
                                have HS8 := Aside0.mk (HS7.out.below HB.out)
                                have HV8 := Aside0.mk (HV7.out.below HB.out)
                                clear HB HS7 HV7 hltk hk hkk
                                have HSm := Aside0.mk (sum_calls g (N + 80) (by omega) T' _ HS8.out.tab.tb)
                                rw [HQS.out] at HSm
                                have hwr : IntKind.i64.wrap ((sumT T).2 + (numE more - numE less)) = (sumT T).2 + (numE more - numE less) := IntWalk.i64_in _ (by have := HB1.out; have := HB2.out; have := HSB.out; omega)
                                go_wp2_with (fail)
                                refine HSm.out.mono ?_
                                rintro e w9 ⟨rfl, hb9⟩
                                have HS9 := Aside0.mk (HS8.out.below hb9)
                                have HV9 := Aside0.mk (HV8.out.below hb9)
                                clear hb9 HSm HS8 HV8
                                have HCh := Aside0.mk (change_calls g b6 (N + 80) (by omega) T' A2 c2 less A1 c1 more (by omega) (by omega) w9 HS9.out.tab (Kd.C_below HR2.out HS9.out.bel) (Kd.C_below HR1.out HS9.out.bel))
                                rw [HQB.out] at HCh
                                go_wp2_with (fail)
                                refine HCh.out.mono ?_
                                rintro e w10 ⟨rfl, b10, hb10, ht10, hg10⟩
                                have HS10 := Aside0.mk (HS9.out.tabs hb10 ht10 hg10 (.inl rfl))
                                have HV10 := Aside0.mk (HV9.out.grown hg10 HGW.out)
                                clear hb10 ht10 hg10 HCh HS9 HV9
                                go_wp2_with (fail)
                                refine (rows2 g _ (by omega) T w10 HS10.out.tab.tb).mono ?_
                                rintro e w11 ⟨v11, rfl, hv11, hb11⟩
                                obtain ⟨A11, c11, rfl, hc11, hr11⟩ := hv11.reads (by omega)
                                have HS11 := Aside0.mk (HS10.out.below hb11)
                                have HV11 := Aside0.mk (HV10.out.below hb11)
                                have HR11 := Aside0.mk hr11
                                clear hv11 hb11 hr11 HS10 HV10
                                obtain ⟨A4', c4', he4, -, hr4⟩ := HV11.out.reads (by omega)
                                injection he4 with e1 e2 e3
                                subst e1 e3
                                have HP := Aside0.mk (lighterlaw08_Plain.calls 200000 A4 c4 T _ w11 hr4 hc4 (plain_f T (by omega) 200000 (by omega)))
                                clear hr4 HV11 e2
                                go_wp2_with (fail)
                                refine HP.out.mono ?_
                                rintro e w12 ⟨v12, rfl, hr12, hb12⟩
                                obtain ⟨A12, c12, rfl, hc12, hrd12⟩ := Kd.R_reads hr12
                                rw [List.length_map]
                                have HS12 := Aside0.mk (HS11.out.below hb12)
                                have HSame := Aside0.mk (lighterlaw08_Same.calls 200000 A11 c11 T A12 c12 (T.map toP) true w12 (Kd.C_below HR11.out hb12) hc11 hrd12 hc12 (same_f T (by omega) 200000 (by omega)))
                                rw [List.length_map] at HSame
                                clear hr12 hb12 hc12 hrd12 HP HS11 HR11
                                go_wp2_with (fail)
                                refine HSame.out.mono ?_
                                rintro e w13 ⟨rfl, hb13⟩
                                have HS13 := Aside0.mk (HS12.out.below hb13)
                                clear hb13 HSame
                                go_wp2_with (fail)
                                refine (awake_calls _).mono ?_
                                rintro e w14 ⟨rfl, hb14⟩
                                have HS14 := Aside0.mk (HS13.out.below hb14)
                                clear hb14
                                go_wp2_with (fail)
                                go_ret
                                exact ⟨rfl, HS14.out.bel⟩
                · have hbad := chgR_bad hz
                  rw [hbad] at HCh
                  have hsb := sumT_bound T HG.out.2
                  generalize (chgR T more less).2 = code at hz HCh
                  have hcb : (code != 0) = true := by simpa using hz
                  as_aux_lemma =>
                    go_wp2_with (fail)
                    refine HCh.out.mono ?_
                    rintro e w10 ⟨rfl, b10, hb10, ht10, hg10⟩
                    have HS10 := Aside0.mk (HS5.out.tabs hb10 ht10 hg10 (.inl rfl))
                    have HV10 := Aside0.mk (HV5.out.grown hg10 HGW.out)
                    clear hb10 ht10 hg10 HCh HS5 HV5
                    go_wp2_with (fail)
                    refine (rows2 g _ (by omega) T w10 HS10.out.tab.tb).mono ?_
                    rintro e w11 ⟨v11, rfl, hv11, hb11⟩
                    obtain ⟨A11, c11, rfl, hc11, hr11⟩ := hv11.reads (by omega)
                    have HS11 := Aside0.mk (HS10.out.below hb11)
                    have HV11 := Aside0.mk (HV10.out.below hb11)
                    have HR11 := Aside0.mk hr11
                    clear hv11 hb11 hr11 HS10 HV10
                    obtain ⟨A4', c4', he4, -, hr4⟩ := HV11.out.reads (by omega)
                    injection he4 with e1 e2 e3
                    subst e1 e3
                    have HP := Aside0.mk (lighterlaw08_Plain.calls 200000 A4 c4 T _ w11 hr4 hc4 (plain_f T (by omega) 200000 (by omega)))
                    clear hr4 HV11 e2
                    go_wp2_with (fail)
                    refine HP.out.mono ?_
                    rintro e w12 ⟨v12, rfl, hr12, hb12⟩
                    obtain ⟨A12, c12, rfl, hc12, hrd12⟩ := Kd.R_reads hr12
                    rw [List.length_map]
                    have HS12 := Aside0.mk (HS11.out.below hb12)
                    have HSame := Aside0.mk (lighterlaw08_Same.calls 200000 A11 c11 T A12 c12 (T.map toP) true w12 (Kd.C_below HR11.out hb12) hc11 hrd12 hc12 (same_f T (by omega) 200000 (by omega)))
                    rw [List.length_map] at HSame
                    clear hr12 hb12 hc12 hrd12 HP HS11 HR11
                    go_wp2_with (fail)
                    refine HSame.out.mono ?_
                    rintro e w13 ⟨rfl, hb13⟩
                    have HS13 := Aside0.mk (HS12.out.below hb13)
                    clear hb13 HSame
                    go_wp2_with (fail)
                    refine (awake_calls _).mono ?_
                    rintro e w14 ⟨rfl, hb14⟩
                    have HS14 := Aside0.mk (HS13.out.below hb14)
                    clear hb14
                    go_wp2_with (fail)
                    go_ret
                    exact ⟨rfl, HS14.out.bel⟩
      · have g2 : decide ((less.length : Int) > 20) = true := by simp; omega
        as_aux_lemma =>
          go_enter Try.func8, Try.ntmps8
          go_wp2_with (fail)
          refine (newS w w (Below.refl _ _)).mono ?_
          rintro e w1 ⟨g, b, rfl, hs⟩
          have HS1 := Aside0.mk hs
          clear hs
          go_wp2_with (fail)
          refine (HFew.out w1 HS1.out.bel).mono ?_
          rintro e w2 ⟨rfl, hb2⟩
          have HS2 := Aside0.mk (HS1.out.below hb2)
          clear hb2 HS1
          go_wp2_with (fail)
          refine (awake_calls _).mono ?_
          rintro e w3 ⟨rfl, hb3⟩
          have HS3 := Aside0.mk (HS2.out.below hb3)
          clear hb3 HS2
          go_wp2_with (fail)
          go_ret
          exact ⟨rfl, HS3.out.bel⟩
    · have g1 : decide ((more.length : Int) > 20) = true := by simp; omega
      as_aux_lemma =>
        go_enter Try.func8, Try.ntmps8
        go_wp2_with (fail)
        refine (newS w w (Below.refl _ _)).mono ?_
        rintro e w1 ⟨g, b, rfl, hs⟩
        have HS1 := Aside0.mk hs
        clear hs
        go_wp2_with (fail)
        refine (HFew.out w1 HS1.out.bel).mono ?_
        rintro e w2 ⟨rfl, hb2⟩
        have HS2 := Aside0.mk (HS1.out.below hb2)
        clear hb2 HS1
        go_wp2_with (fail)
        refine (awake_calls _).mono ?_
        rintro e w3 ⟨rfl, hb3⟩
        have HS3 := Aside0.mk (HS2.out.below hb3)
        clear hb3 HS2
        go_wp2_with (fail)
        go_ret
        exact ⟨rfl, HS3.out.bel⟩
  · rw [decide_eq_false hf] at HFew
    have HFew := Aside0.mk HFew
    clear hf
    as_aux_lemma =>
      go_enter Try.func8, Try.ntmps8
      go_wp2_with (fail)
      refine (newS w w (Below.refl _ _)).mono ?_
      rintro e w1 ⟨g, b, rfl, hs⟩
      have HS1 := Aside0.mk hs
      clear hs
      go_wp2_with (fail)
      refine (HFew.out w1 HS1.out.bel).mono ?_
      rintro e w2 ⟨rfl, hb2⟩
      have HS2 := Aside0.mk (HS1.out.below hb2)
      clear hb2 HS1
      go_wp2_with (fail)
      refine (awake_calls _).mono ?_
      rintro e w3 ⟨rfl, hb3⟩
      have HS3 := Aside0.mk (HS2.out.below hb3)
      clear hb3 HS2
      go_wp2_with (fail)
      go_ret
      exact ⟨rfl, HS3.out.bel⟩
end Go.Proofs.Ytcjeegomonegpaa.PLivePlays
