-- PRINTED BY print.sh 35421559b90ae4d0a3588c463048766b98c2df88dd9212a6774a882060cdf62d: not written by this session
import Derived.Test.YtkbohbelmgmlnaaPRingRoundx0
import Derived.Test.YtkbohbelmgmlnaaPRingRoundx3
import Derived.Test.YtkbohbelmgmlnaaPRingRoundx4
import Derived.Test.YtkbohbelmgmlnaaPRingRoundx5
import Derived.Test.YtkbohbelmgmlnaaPRingRoundx6
namespace Go.Proofs.Ytkbohbelmgmlnaa.PRingRound
open Go.RowKit Go.Proofs.YtkbohbelmgmlnaaW.PrintWords Go.Proofs.YtkbohbelmgmlnaaW.PrintLast Go.Proofs.YtkbohbelmgmlnaaW.PrintMore
attribute [local go_sem] max2_int min2_int max_two min_two max_three min_three max_four min_four   -- for this text's walks alone
set_option linter.unusedVariables false
set_option linter.unusedSimpArgs false

/-! ### lighterlaw09_RingRound: function 5 -/
mutual
def lighterlaw09_RingRound.j0 : Nat → Int → Int → Bool → Int → Int → Int → Option (Bool)
  | 0, _, _, _, _, _, _ => none
  | k + 1, x1, x2, x44, x181000, x181001, x181002 => if x44 = true then ((lighterlaw09_awake.f k).bind fun t182 => (some t182)) else ((ring_Ring_At.f k x181000 x181001 x181002 x1 x2).bind fun bt183 => ((ring_Ring_At.f k x181000 x181001 x181002 (wrap64 (x1 + x181000)) x2).bind fun bt187 => ((ring_Ring_At.f k x181000 x181001 x181002 x1 x181000).bind fun bt191 => (if bt183.2 = 0 then (if bt187.2 = 0 then (if bt191.2 = 0 then ((lighterref01_Same.f k bt183.1 bt187.1).bind fun t195 => (if t195 = true then ((lighterlaw09_size.f k bt183.1).bind fun t196 => (if t196 = x2 then ((lighterlaw09_size.f k bt191.1).bind fun t197 => (lighterlaw09_RingRound.j1 k bt191.1 (t197 != x181000) x181000 x181001 x181002)) else (lighterlaw09_RingRound.j1 k bt191.1 true x181000 x181001 x181002))) else (lighterlaw09_RingRound.j1 k bt191.1 true x181000 x181001 x181002))) else (lighterlaw09_RingRound.j1 k bt191.1 true x181000 x181001 x181002)) else (lighterlaw09_RingRound.j1 k bt191.1 true x181000 x181001 x181002)) else (lighterlaw09_RingRound.j1 k bt191.1 true x181000 x181001 x181002)))))
def lighterlaw09_RingRound.j1 : Nat → List (S47) → Bool → Int → Int → Int → Option (Bool)
  | 0, _, _, _, _, _ => none
  | k + 1, x11, x99, x181000, x181001, x181002 => if x99 = true then (some false) else (lighterlaw09_RingRound.l0 k x11 0 x181000 x181001 x181002)
def lighterlaw09_RingRound.l0 : Nat → List (S47) → Int → Int → Int → Int → Option (Bool)
  | 0, _, _, _, _, _ => none
  | k + 1, x11, x13, x181000, x181001, x181002 => if x13 < x181000 then ((lighterref01_Within.f k x11 x13).bind fun t198 => (if t198 = true then (lighterlaw09_RingRound.l0 k x11 (wrap64 (x13 + 1)) x181000 x181001 x181002) else (some false))) else ((lighterlaw09_awake.f k).bind fun t199 => (some t199))
end
def lighterlaw09_RingRound.f (k : Nat) (a0_0 : Int) (a0_1 : Int) (a0_2 : Int) (a1 : Int) (a2 : Int) : Option (Bool) := (lighterref09_May.f a0_0 a0_1 a0_2).bind fun t181 => (if t181 = true then (if a0_0 > 300 then (lighterlaw09_RingRound.j0 k a1 a2 true a0_0 a0_1 a0_2) else (if a1 < 0 then (lighterlaw09_RingRound.j0 k a1 a2 true a0_0 a0_1 a0_2) else (if a1 ≥ 1000000 then (lighterlaw09_RingRound.j0 k a1 a2 true a0_0 a0_1 a0_2) else (if a2 < 0 then (lighterlaw09_RingRound.j0 k a1 a2 true a0_0 a0_1 a0_2) else (lighterlaw09_RingRound.j0 k a1 a2 (decide (a2 > a0_0)) a0_0 a0_1 a0_2))))) else (lighterlaw09_RingRound.j0 k a1 a2 true a0_0 a0_1 a0_2))
theorem lighterlaw09_RingRound.mono_l : ∀ k, (∀ y0 y1 y2 y3 y4 y5, LeO (lighterlaw09_RingRound.j0 k y0 y1 y2 y3 y4 y5) (lighterlaw09_RingRound.j0 (k + 1) y0 y1 y2 y3 y4 y5)) ∧ (∀ y0 y1 y2 y3 y4, LeO (lighterlaw09_RingRound.j1 k y0 y1 y2 y3 y4) (lighterlaw09_RingRound.j1 (k + 1) y0 y1 y2 y3 y4)) ∧ (∀ y0 y1 y2 y3 y4, LeO (lighterlaw09_RingRound.l0 k y0 y1 y2 y3 y4) (lighterlaw09_RingRound.l0 (k + 1) y0 y1 y2 y3 y4))
  | 0 => ⟨fun _ _ _ _ _ _ r h => by simp [lighterlaw09_RingRound.j0] at h, fun _ _ _ _ _ r h => by simp [lighterlaw09_RingRound.j1] at h, fun _ _ _ _ _ r h => by simp [lighterlaw09_RingRound.l0] at h⟩
  | k + 1 => by
    obtain ⟨ih0, ih1, ih2⟩ := lighterlaw09_RingRound.mono_l k
    refine ⟨?_, ?_, ?_⟩
    · intro y0 y1 y2 y3 y4 y5
      unfold lighterlaw09_RingRound.j0
      repeat' first
      | (with_reducible exact ih0 _ _ _ _ _ _)
      | (with_reducible exact ih1 _ _ _ _ _)
      | (with_reducible exact ih2 _ _ _ _ _)
      | (with_reducible exact lighterlaw09_awake.mono _)
      | (with_reducible exact lighterlaw09_size.mono _ _)
      | (with_reducible exact lighterref01_Same.mono _ _ _)
      | (with_reducible exact lighterref01_Within.mono _ _ _)
      | (with_reducible exact ring_Ring_At.mono _ _ _ _ _ _)
      | (with_reducible exact LeO.refl _)
      | (with_reducible exact LeO.none _)
      | (with_reducible refine LeO.ite ?_ ?_)
      | (with_reducible refine LeO.bind ?_ (fun _ => ?_))
      | exact ih0 _ _ _ _ _ _
      | exact ih1 _ _ _ _ _
      | exact ih2 _ _ _ _ _
      | exact lighterlaw09_awake.mono _
      | exact lighterlaw09_size.mono _ _
      | exact lighterref01_Same.mono _ _ _
      | exact lighterref01_Within.mono _ _ _
      | exact ring_Ring_At.mono _ _ _ _ _ _
      | exact LeO.none _
      | refine LeO.ite ?_ ?_
      | refine LeO.bind ?_ (fun _ => ?_)
    · intro y0 y1 y2 y3 y4
      unfold lighterlaw09_RingRound.j1
      repeat' first
      | (with_reducible exact ih0 _ _ _ _ _ _)
      | (with_reducible exact ih1 _ _ _ _ _)
      | (with_reducible exact ih2 _ _ _ _ _)
      | (with_reducible exact lighterlaw09_awake.mono _)
      | (with_reducible exact lighterlaw09_size.mono _ _)
      | (with_reducible exact lighterref01_Same.mono _ _ _)
      | (with_reducible exact lighterref01_Within.mono _ _ _)
      | (with_reducible exact ring_Ring_At.mono _ _ _ _ _ _)
      | (with_reducible exact LeO.refl _)
      | (with_reducible exact LeO.none _)
      | (with_reducible refine LeO.ite ?_ ?_)
      | (with_reducible refine LeO.bind ?_ (fun _ => ?_))
      | exact ih0 _ _ _ _ _ _
      | exact ih1 _ _ _ _ _
      | exact ih2 _ _ _ _ _
      | exact lighterlaw09_awake.mono _
      | exact lighterlaw09_size.mono _ _
      | exact lighterref01_Same.mono _ _ _
      | exact lighterref01_Within.mono _ _ _
      | exact ring_Ring_At.mono _ _ _ _ _ _
      | exact LeO.none _
      | refine LeO.ite ?_ ?_
      | refine LeO.bind ?_ (fun _ => ?_)
    · intro y0 y1 y2 y3 y4
      unfold lighterlaw09_RingRound.l0
      repeat' first
      | (with_reducible exact ih0 _ _ _ _ _ _)
      | (with_reducible exact ih1 _ _ _ _ _)
      | (with_reducible exact ih2 _ _ _ _ _)
      | (with_reducible exact lighterlaw09_awake.mono _)
      | (with_reducible exact lighterlaw09_size.mono _ _)
      | (with_reducible exact lighterref01_Same.mono _ _ _)
      | (with_reducible exact lighterref01_Within.mono _ _ _)
      | (with_reducible exact ring_Ring_At.mono _ _ _ _ _ _)
      | (with_reducible exact LeO.refl _)
      | (with_reducible exact LeO.none _)
      | (with_reducible refine LeO.ite ?_ ?_)
      | (with_reducible refine LeO.bind ?_ (fun _ => ?_))
      | exact ih0 _ _ _ _ _ _
      | exact ih1 _ _ _ _ _
      | exact ih2 _ _ _ _ _
      | exact lighterlaw09_awake.mono _
      | exact lighterlaw09_size.mono _ _
      | exact lighterref01_Same.mono _ _ _
      | exact lighterref01_Within.mono _ _ _
      | exact ring_Ring_At.mono _ _ _ _ _ _
      | exact LeO.none _
      | refine LeO.ite ?_ ?_
      | refine LeO.bind ?_ (fun _ => ?_)
theorem lighterlaw09_RingRound.mono : ∀ a0 a1 a2 a3 a4 k, LeO (lighterlaw09_RingRound.f k a0 a1 a2 a3 a4) (lighterlaw09_RingRound.f (k + 1) a0 a1 a2 a3 a4) := by
  intro a0 a1 a2 a3 a4 k
  obtain ⟨ih0, ih1, ih2⟩ := lighterlaw09_RingRound.mono_l k
  unfold lighterlaw09_RingRound.f
  repeat' first
      | (with_reducible exact ih0 _ _ _ _ _ _)
      | (with_reducible exact ih1 _ _ _ _ _)
      | (with_reducible exact ih2 _ _ _ _ _)
      | (with_reducible exact lighterlaw09_awake.mono _)
      | (with_reducible exact lighterlaw09_size.mono _ _)
      | (with_reducible exact lighterref01_Same.mono _ _ _)
      | (with_reducible exact lighterref01_Within.mono _ _ _)
      | (with_reducible exact ring_Ring_At.mono _ _ _ _ _ _)
      | (with_reducible exact LeO.refl _)
      | (with_reducible exact LeO.none _)
      | (with_reducible refine LeO.ite ?_ ?_)
      | (with_reducible refine LeO.bind ?_ (fun _ => ?_))
      | exact ih0 _ _ _ _ _ _
      | exact ih1 _ _ _ _ _
      | exact ih2 _ _ _ _ _
      | exact lighterlaw09_awake.mono _
      | exact lighterlaw09_size.mono _ _
      | exact lighterref01_Same.mono _ _ _
      | exact lighterref01_Within.mono _ _ _
      | exact ring_Ring_At.mono _ _ _ _ _ _
      | exact LeO.none _
      | refine LeO.ite ?_ ?_
      | refine LeO.bind ?_ (fun _ => ?_)
set_option maxHeartbeats 8000000 in
set_option maxRecDepth 100000 in
theorem lighterlaw09_RingRound.calls (k : Nat) (a0_0 : Int) (a0_1 : Int) (a0_2 : Int) (a1 : Int) (a2 : Int) (r : Bool) (w : World) (h : lighterlaw09_RingRound.f k a0_0 a0_1 a0_2 a1 a2 = some r) :
    Calls Try.prog 5 #[.agg #[.int .i64 a0_0, .int .i64 a0_1, .int .i64 a0_2], .int .i64 a1, .int .i64 a2] w fun e w' => e = .returned (.bool r) ∧ Below w.heap.size w w' := by
  have hu23 := Try.underlying23
  have HB := Aside0.mk (Below.refl w.heap.size w)
  have H : ((lighterref09_May.f a0_0 a0_1 a0_2).bind fun t181 => (if t181 = true then (if a0_0 > 300 then (lighterlaw09_RingRound.j0 k a1 a2 true a0_0 a0_1 a0_2) else (if a1 < 0 then (lighterlaw09_RingRound.j0 k a1 a2 true a0_0 a0_1 a0_2) else (if a1 ≥ 1000000 then (lighterlaw09_RingRound.j0 k a1 a2 true a0_0 a0_1 a0_2) else (if a2 < 0 then (lighterlaw09_RingRound.j0 k a1 a2 true a0_0 a0_1 a0_2) else (lighterlaw09_RingRound.j0 k a1 a2 (decide (a2 > a0_0)) a0_0 a0_1 a0_2))))) else (lighterlaw09_RingRound.j0 k a1 a2 true a0_0 a0_1 a0_2))) = some r := h
  clear h
  have HC4 := Aside0.mk H
  clear H
  go_enter Try.func5, Try.ntmps5
  go_upto_region 1 with (first | ((with_reducible refine gate_dst (N := 3) rfl ?_); refine box_event ?hg (N := 3) ?hd (cs := #[.int .i64 a0_0, .int .i64 a0_1, .int .i64 a0_2]) (t := 23) ?hr ?_; (case hd => rfl); (case hg => rfl); (case hr => first | (go_simp; done) | (go_simp; rfl)); intro gb180 hg w5 hbox hb; have n0_ := Aside0.mk (below_step (by repeat (first | (with_reducible first | exact HB.out | apply below_alloc | apply pw_below_drewN | apply below_drew1) | exact HB.out)) hb); have n1_ := Aside0.mk (hbox); have n2_ := Aside0.mk ((by rw [hg]; exact (below_size (by repeat (first | (with_reducible first | exact HB.out | apply below_alloc | apply pw_below_drewN | apply below_drew1) | exact HB.out))) : w.heap.size ≤ gb180)); have n3_ := Aside0.mk ((by rw [hg]; exact (below_size (by repeat (first | (with_reducible first | exact HB.out | apply below_alloc | apply pw_below_drewN | apply below_drew1) | exact HB.out))) : w.heap.size ≤ gb180)); clear HB; have HB := n0_; have BK180 := n1_; have GW180 := n2_; have GE180 := n3_; clear n0_ n1_ n2_ n3_; clear hb hbox hg))
  repeat (go_quiet (first | ((with_reducible refine gate_dst (N := 3) rfl ?_); refine box_event ?hg (N := 3) ?hd (cs := #[.int .i64 a0_0, .int .i64 a0_1, .int .i64 a0_2]) (t := 23) ?hr ?_; (case hd => rfl); (case hg => rfl); (case hr => first | (go_simp; done) | (go_simp; rfl)); intro gb180 hg w5 hbox hb; have n0_ := Aside0.mk (below_step (by repeat (first | (with_reducible first | exact HB.out | apply below_alloc | apply pw_below_drewN | apply below_drew1) | exact HB.out)) hb); have n1_ := Aside0.mk (hbox); have n2_ := Aside0.mk ((by rw [hg]; exact (below_size (by repeat (first | (with_reducible first | exact HB.out | apply below_alloc | apply pw_below_drewN | apply below_drew1) | exact HB.out))) : w.heap.size ≤ gb180)); have n3_ := Aside0.mk ((by rw [hg]; exact (below_size (by repeat (first | (with_reducible first | exact HB.out | apply below_alloc | apply pw_below_drewN | apply below_drew1) | exact HB.out))) : w.heap.size ≤ gb180)); clear HB; have HB := n0_; have BK180 := n1_; have GW180 := n2_; have GE180 := n3_; clear n0_ n1_ n2_ n3_; clear hb hbox hg)); go_upto_region 1 with (first | ((with_reducible refine gate_dst (N := 3) rfl ?_); refine box_event ?hg (N := 3) ?hd (cs := #[.int .i64 a0_0, .int .i64 a0_1, .int .i64 a0_2]) (t := 23) ?hr ?_; (case hd => rfl); (case hg => rfl); (case hr => first | (go_simp; done) | (go_simp; rfl)); intro gb180 hg w5 hbox hb; have n0_ := Aside0.mk (below_step (by repeat (first | (with_reducible first | exact HB.out | apply below_alloc | apply pw_below_drewN | apply below_drew1) | exact HB.out)) hb); have n1_ := Aside0.mk (hbox); have n2_ := Aside0.mk ((by rw [hg]; exact (below_size (by repeat (first | (with_reducible first | exact HB.out | apply below_alloc | apply pw_below_drewN | apply below_drew1) | exact HB.out))) : w.heap.size ≤ gb180)); have n3_ := Aside0.mk ((by rw [hg]; exact (below_size (by repeat (first | (with_reducible first | exact HB.out | apply below_alloc | apply pw_below_drewN | apply below_drew1) | exact HB.out))) : w.heap.size ≤ gb180)); clear HB; have HB := n0_; have BK180 := n1_; have GW180 := n2_; have GE180 := n3_; clear n0_ n1_ n2_ n3_; clear hb hbox hg)))
  (try simp only [Act.put, List.setIfInBounds_toArray, List.set_cons_zero, List.set_cons_succ])
  go_cut [44] (fun v44 wc => ∃ (kq : Nat) (x44_3 : Bool), v44 = .bool x44_3 ∧ Aside0 (lighterlaw09_RingRound.j0 kq a1 a2 x44_3 a0_0 a0_1 a0_2 = some r) ∧ Aside0 (kq ≤ k) ∧ Aside0 (wc.heap[gb180]? = some (.cells #[.int .i64 a0_0, .int .i64 a0_1, .int .i64 a0_2] 23 (0, 0))) ∧ Aside0 (Below w.heap.size w wc))
  case first =>
    have H := HC4.out
    clear HC4
    replace H := Option.bind_eq_some_iff.mp H
    obtain ⟨t181, A60, H⟩ := H
    replace H : (if t181 = true then (if a0_0 > 300 then (lighterlaw09_RingRound.j0 k a1 a2 true a0_0 a0_1 a0_2) else (if a1 < 0 then (lighterlaw09_RingRound.j0 k a1 a2 true a0_0 a0_1 a0_2) else (if a1 ≥ 1000000 then (lighterlaw09_RingRound.j0 k a1 a2 true a0_0 a0_1 a0_2) else (if a2 < 0 then (lighterlaw09_RingRound.j0 k a1 a2 true a0_0 a0_1 a0_2) else (lighterlaw09_RingRound.j0 k a1 a2 (decide (a2 > a0_0)) a0_0 a0_1 a0_2))))) else (lighterlaw09_RingRound.j0 k a1 a2 true a0_0 a0_1 a0_2)) = some r := H
    have A6 := Aside0.mk A60
    clear A60
    by_cases c7 : t181 = true
    · subst c7
      have H1 : (if a0_0 > 300 then (lighterlaw09_RingRound.j0 k a1 a2 true a0_0 a0_1 a0_2) else (if a1 < 0 then (lighterlaw09_RingRound.j0 k a1 a2 true a0_0 a0_1 a0_2) else (if a1 ≥ 1000000 then (lighterlaw09_RingRound.j0 k a1 a2 true a0_0 a0_1 a0_2) else (if a2 < 0 then (lighterlaw09_RingRound.j0 k a1 a2 true a0_0 a0_1 a0_2) else (lighterlaw09_RingRound.j0 k a1 a2 (decide (a2 > a0_0)) a0_0 a0_1 a0_2))))) = some r := by rw [if_pos rfl] at H; exact H
      clear H
      have H := H1
      clear H1
      by_cases c8 : a0_0 > 300
      · rw [if_pos c8] at H
        have c8b0 : decide (300 < a0_0) = true := decide_eq_true c8
        clear c8
        (first | rw [c8b0] | (simp only [i64_w, i32_w]; rw [c8b0]) | skip)
        have H' := Aside0.mk H
        clear H
        have hcz9_0 : w5.cell? ⟨gb180, 0, none⟩ = some (.int .i64 a0_0) := (blk_cell BK180.out 0).trans rfl
        have hcz9_1 : w5.cell? ⟨gb180, 1, none⟩ = some (.int .i64 a0_1) := (blk_cell BK180.out 1).trans rfl
        have hcz9_2 : w5.cell? ⟨gb180, 2, none⟩ = some (.int .i64 a0_2) := (blk_cell BK180.out 2).trans rfl
        have hfz9_0 := blk_frozen BK180.out 0
        have hfz9_1 := blk_frozen BK180.out 1
        have hfz9_2 := blk_frozen BK180.out 2
        go_wp2_with (first | (go_at_call 10; (with_reducible refine (lighterref09_May.calls a0_0 a0_1 a0_2 true _ A6.out).mono ?_); rintro e w' ⟨rfl, ⟨nd, rfl⟩⟩; (try first | exact ⟨rfl, _, World.drewN_drewN _ _ _⟩ | exact ⟨rfl, _, Eq.trans (World.drewN_drewN _ _ _) (congrArg (World.drewN _) (Nat.add_assoc _ _ _))⟩)))
        repeat (go_quiet (first | (go_at_call 10; (with_reducible refine (lighterref09_May.calls a0_0 a0_1 a0_2 true _ A6.out).mono ?_); rintro e w' ⟨rfl, ⟨nd, rfl⟩⟩; (try first | exact ⟨rfl, _, World.drewN_drewN _ _ _⟩ | exact ⟨rfl, _, Eq.trans (World.drewN_drewN _ _ _) (congrArg (World.drewN _) (Nat.add_assoc _ _ _))⟩))); try go_wp2_with (first | (go_at_call 10; (with_reducible refine (lighterref09_May.calls a0_0 a0_1 a0_2 true _ A6.out).mono ?_); rintro e w' ⟨rfl, ⟨nd, rfl⟩⟩; (try first | exact ⟨rfl, _, World.drewN_drewN _ _ _⟩ | exact ⟨rfl, _, Eq.trans (World.drewN_drewN _ _ _) (congrArg (World.drewN _) (Nat.add_assoc _ _ _))⟩))))
        go_meet
        case rel => exact ⟨_, (true), (by first | rfl | (simp; done) | (simp [*]; done)), H', ⟨by first | omega | exact Nat.le_refl _⟩, ⟨by (with_reducible repeat (first | refine blk_drewN ?_ _ | refine blk_drew ?_ | refine blk_alloc ?_ _)); exact BK180.out⟩, ⟨by repeat (first | (with_reducible first | exact HB.out | apply below_alloc | apply pw_below_drewN | apply below_drew1 | refine below_set ?_ GE180.out) | exact HB.out)⟩⟩
      · rw [if_neg c8] at H
        have c8b0 : decide (300 < a0_0) = false := decide_eq_false c8
        clear c8
        (first | rw [c8b0] | (simp only [i64_w, i32_w]; rw [c8b0]) | skip)
        by_cases c10 : a1 < 0
        · rw [if_pos c10] at H
          have c10b0 : decide (a1 < 0) = true := decide_eq_true c10
          clear c10
          have H' := Aside0.mk H
          clear H
          have hcz11_0 : w5.cell? ⟨gb180, 0, none⟩ = some (.int .i64 a0_0) := (blk_cell BK180.out 0).trans rfl
          have hcz11_1 : w5.cell? ⟨gb180, 1, none⟩ = some (.int .i64 a0_1) := (blk_cell BK180.out 1).trans rfl
          have hcz11_2 : w5.cell? ⟨gb180, 2, none⟩ = some (.int .i64 a0_2) := (blk_cell BK180.out 2).trans rfl
          have hfz11_0 := blk_frozen BK180.out 0
          have hfz11_1 := blk_frozen BK180.out 1
          have hfz11_2 := blk_frozen BK180.out 2
          go_wp2_with (first | (go_at_call 10; (with_reducible refine (lighterref09_May.calls a0_0 a0_1 a0_2 true _ A6.out).mono ?_); rintro e w' ⟨rfl, ⟨nd, rfl⟩⟩; (try first | exact ⟨rfl, _, World.drewN_drewN _ _ _⟩ | exact ⟨rfl, _, Eq.trans (World.drewN_drewN _ _ _) (congrArg (World.drewN _) (Nat.add_assoc _ _ _))⟩)))
          repeat (go_quiet (first | (go_at_call 10; (with_reducible refine (lighterref09_May.calls a0_0 a0_1 a0_2 true _ A6.out).mono ?_); rintro e w' ⟨rfl, ⟨nd, rfl⟩⟩; (try first | exact ⟨rfl, _, World.drewN_drewN _ _ _⟩ | exact ⟨rfl, _, Eq.trans (World.drewN_drewN _ _ _) (congrArg (World.drewN _) (Nat.add_assoc _ _ _))⟩))); try go_wp2_with (first | (go_at_call 10; (with_reducible refine (lighterref09_May.calls a0_0 a0_1 a0_2 true _ A6.out).mono ?_); rintro e w' ⟨rfl, ⟨nd, rfl⟩⟩; (try first | exact ⟨rfl, _, World.drewN_drewN _ _ _⟩ | exact ⟨rfl, _, Eq.trans (World.drewN_drewN _ _ _) (congrArg (World.drewN _) (Nat.add_assoc _ _ _))⟩))))
          go_meet
          case rel => exact ⟨_, (true), (by first | rfl | (simp; done) | (simp [*]; done)), H', ⟨by first | omega | exact Nat.le_refl _⟩, ⟨by (with_reducible repeat (first | refine blk_drewN ?_ _ | refine blk_drew ?_ | refine blk_alloc ?_ _)); exact BK180.out⟩, ⟨by repeat (first | (with_reducible first | exact HB.out | apply below_alloc | apply pw_below_drewN | apply below_drew1 | refine below_set ?_ GE180.out) | exact HB.out)⟩⟩
        · rw [if_neg c10] at H
          have c10b0 : decide (a1 < 0) = false := decide_eq_false c10
          clear c10
          by_cases c12 : a1 ≥ 1000000
          · rw [if_pos c12] at H
            have c12b0 : decide (1000000 ≤ a1) = true := decide_eq_true c12
            clear c12
            have H' := Aside0.mk H
            clear H
            have hcz13_0 : w5.cell? ⟨gb180, 0, none⟩ = some (.int .i64 a0_0) := (blk_cell BK180.out 0).trans rfl
            have hcz13_1 : w5.cell? ⟨gb180, 1, none⟩ = some (.int .i64 a0_1) := (blk_cell BK180.out 1).trans rfl
            have hcz13_2 : w5.cell? ⟨gb180, 2, none⟩ = some (.int .i64 a0_2) := (blk_cell BK180.out 2).trans rfl
            have hfz13_0 := blk_frozen BK180.out 0
            have hfz13_1 := blk_frozen BK180.out 1
            have hfz13_2 := blk_frozen BK180.out 2
            go_wp2_with (first | (go_at_call 10; (with_reducible refine (lighterref09_May.calls a0_0 a0_1 a0_2 true _ A6.out).mono ?_); rintro e w' ⟨rfl, ⟨nd, rfl⟩⟩; (try first | exact ⟨rfl, _, World.drewN_drewN _ _ _⟩ | exact ⟨rfl, _, Eq.trans (World.drewN_drewN _ _ _) (congrArg (World.drewN _) (Nat.add_assoc _ _ _))⟩)))
            repeat (go_quiet (first | (go_at_call 10; (with_reducible refine (lighterref09_May.calls a0_0 a0_1 a0_2 true _ A6.out).mono ?_); rintro e w' ⟨rfl, ⟨nd, rfl⟩⟩; (try first | exact ⟨rfl, _, World.drewN_drewN _ _ _⟩ | exact ⟨rfl, _, Eq.trans (World.drewN_drewN _ _ _) (congrArg (World.drewN _) (Nat.add_assoc _ _ _))⟩))); try go_wp2_with (first | (go_at_call 10; (with_reducible refine (lighterref09_May.calls a0_0 a0_1 a0_2 true _ A6.out).mono ?_); rintro e w' ⟨rfl, ⟨nd, rfl⟩⟩; (try first | exact ⟨rfl, _, World.drewN_drewN _ _ _⟩ | exact ⟨rfl, _, Eq.trans (World.drewN_drewN _ _ _) (congrArg (World.drewN _) (Nat.add_assoc _ _ _))⟩))))
            go_meet
            case rel => exact ⟨_, (true), (by first | rfl | (simp; done) | (simp [*]; done)), H', ⟨by first | omega | exact Nat.le_refl _⟩, ⟨by (with_reducible repeat (first | refine blk_drewN ?_ _ | refine blk_drew ?_ | refine blk_alloc ?_ _)); exact BK180.out⟩, ⟨by repeat (first | (with_reducible first | exact HB.out | apply below_alloc | apply pw_below_drewN | apply below_drew1 | refine below_set ?_ GE180.out) | exact HB.out)⟩⟩
          · rw [if_neg c12] at H
            have c12b0 : decide (1000000 ≤ a1) = false := decide_eq_false c12
            clear c12
            by_cases c14 : a2 < 0
            · rw [if_pos c14] at H
              have c14b0 : decide (a2 < 0) = true := decide_eq_true c14
              clear c14
              have H' := Aside0.mk H
              clear H
              have hcz15_0 : w5.cell? ⟨gb180, 0, none⟩ = some (.int .i64 a0_0) := (blk_cell BK180.out 0).trans rfl
              have hcz15_1 : w5.cell? ⟨gb180, 1, none⟩ = some (.int .i64 a0_1) := (blk_cell BK180.out 1).trans rfl
              have hcz15_2 : w5.cell? ⟨gb180, 2, none⟩ = some (.int .i64 a0_2) := (blk_cell BK180.out 2).trans rfl
              have hfz15_0 := blk_frozen BK180.out 0
              have hfz15_1 := blk_frozen BK180.out 1
              have hfz15_2 := blk_frozen BK180.out 2
              go_wp2_with (first | (go_at_call 10; (with_reducible refine (lighterref09_May.calls a0_0 a0_1 a0_2 true _ A6.out).mono ?_); rintro e w' ⟨rfl, ⟨nd, rfl⟩⟩; (try first | exact ⟨rfl, _, World.drewN_drewN _ _ _⟩ | exact ⟨rfl, _, Eq.trans (World.drewN_drewN _ _ _) (congrArg (World.drewN _) (Nat.add_assoc _ _ _))⟩)))
              repeat (go_quiet (first | (go_at_call 10; (with_reducible refine (lighterref09_May.calls a0_0 a0_1 a0_2 true _ A6.out).mono ?_); rintro e w' ⟨rfl, ⟨nd, rfl⟩⟩; (try first | exact ⟨rfl, _, World.drewN_drewN _ _ _⟩ | exact ⟨rfl, _, Eq.trans (World.drewN_drewN _ _ _) (congrArg (World.drewN _) (Nat.add_assoc _ _ _))⟩))); try go_wp2_with (first | (go_at_call 10; (with_reducible refine (lighterref09_May.calls a0_0 a0_1 a0_2 true _ A6.out).mono ?_); rintro e w' ⟨rfl, ⟨nd, rfl⟩⟩; (try first | exact ⟨rfl, _, World.drewN_drewN _ _ _⟩ | exact ⟨rfl, _, Eq.trans (World.drewN_drewN _ _ _) (congrArg (World.drewN _) (Nat.add_assoc _ _ _))⟩))))
              go_meet
              case rel => exact ⟨_, (true), (by first | rfl | (simp; done) | (simp [*]; done)), H', ⟨by first | omega | exact Nat.le_refl _⟩, ⟨by (with_reducible repeat (first | refine blk_drewN ?_ _ | refine blk_drew ?_ | refine blk_alloc ?_ _)); exact BK180.out⟩, ⟨by repeat (first | (with_reducible first | exact HB.out | apply below_alloc | apply pw_below_drewN | apply below_drew1 | refine below_set ?_ GE180.out) | exact HB.out)⟩⟩
            · rw [if_neg c14] at H
              have c14b0 : decide (a2 < 0) = false := decide_eq_false c14
              clear c14
              have H' := Aside0.mk H
              clear H
              have hcz16_0 : w5.cell? ⟨gb180, 0, none⟩ = some (.int .i64 a0_0) := (blk_cell BK180.out 0).trans rfl
              have hcz16_1 : w5.cell? ⟨gb180, 1, none⟩ = some (.int .i64 a0_1) := (blk_cell BK180.out 1).trans rfl
              have hcz16_2 : w5.cell? ⟨gb180, 2, none⟩ = some (.int .i64 a0_2) := (blk_cell BK180.out 2).trans rfl
              have hfz16_0 := blk_frozen BK180.out 0
              have hfz16_1 := blk_frozen BK180.out 1
              have hfz16_2 := blk_frozen BK180.out 2
              go_wp2_with (first | (go_at_call 10; (with_reducible refine (lighterref09_May.calls a0_0 a0_1 a0_2 true _ A6.out).mono ?_); rintro e w' ⟨rfl, ⟨nd, rfl⟩⟩; (try first | exact ⟨rfl, _, World.drewN_drewN _ _ _⟩ | exact ⟨rfl, _, Eq.trans (World.drewN_drewN _ _ _) (congrArg (World.drewN _) (Nat.add_assoc _ _ _))⟩)))
              repeat (go_quiet (first | (go_at_call 10; (with_reducible refine (lighterref09_May.calls a0_0 a0_1 a0_2 true _ A6.out).mono ?_); rintro e w' ⟨rfl, ⟨nd, rfl⟩⟩; (try first | exact ⟨rfl, _, World.drewN_drewN _ _ _⟩ | exact ⟨rfl, _, Eq.trans (World.drewN_drewN _ _ _) (congrArg (World.drewN _) (Nat.add_assoc _ _ _))⟩))); try go_wp2_with (first | (go_at_call 10; (with_reducible refine (lighterref09_May.calls a0_0 a0_1 a0_2 true _ A6.out).mono ?_); rintro e w' ⟨rfl, ⟨nd, rfl⟩⟩; (try first | exact ⟨rfl, _, World.drewN_drewN _ _ _⟩ | exact ⟨rfl, _, Eq.trans (World.drewN_drewN _ _ _) (congrArg (World.drewN _) (Nat.add_assoc _ _ _))⟩))))
              go_meet
              case rel => exact ⟨_, (decide (a2 > a0_0)), (by first | rfl | (simp; done) | (simp [*]; done)), H', ⟨by first | omega | exact Nat.le_refl _⟩, ⟨by (with_reducible repeat (first | refine blk_drewN ?_ _ | refine blk_drew ?_ | refine blk_alloc ?_ _)); exact BK180.out⟩, ⟨by repeat (first | (with_reducible first | exact HB.out | apply below_alloc | apply pw_below_drewN | apply below_drew1 | refine below_set ?_ GE180.out) | exact HB.out)⟩⟩
    · replace c7 := Bool.eq_false_iff.mpr c7
      subst c7
      have H1 : (lighterlaw09_RingRound.j0 k a1 a2 true a0_0 a0_1 a0_2) = some r := by rw [if_neg (show ¬ (false = true) by decide)] at H; exact H
      clear H
      have H := H1
      clear H1
      have H' := Aside0.mk H
      clear H
      have hcz17_0 : w5.cell? ⟨gb180, 0, none⟩ = some (.int .i64 a0_0) := (blk_cell BK180.out 0).trans rfl
      have hcz17_1 : w5.cell? ⟨gb180, 1, none⟩ = some (.int .i64 a0_1) := (blk_cell BK180.out 1).trans rfl
      have hcz17_2 : w5.cell? ⟨gb180, 2, none⟩ = some (.int .i64 a0_2) := (blk_cell BK180.out 2).trans rfl
      have hfz17_0 := blk_frozen BK180.out 0
      have hfz17_1 := blk_frozen BK180.out 1
      have hfz17_2 := blk_frozen BK180.out 2
      go_wp2_with (first | (go_at_call 10; (with_reducible refine (lighterref09_May.calls a0_0 a0_1 a0_2 false _ A6.out).mono ?_); rintro e w' ⟨rfl, ⟨nd, rfl⟩⟩; (try first | exact ⟨rfl, _, World.drewN_drewN _ _ _⟩ | exact ⟨rfl, _, Eq.trans (World.drewN_drewN _ _ _) (congrArg (World.drewN _) (Nat.add_assoc _ _ _))⟩)))
      repeat (go_quiet (first | (go_at_call 10; (with_reducible refine (lighterref09_May.calls a0_0 a0_1 a0_2 false _ A6.out).mono ?_); rintro e w' ⟨rfl, ⟨nd, rfl⟩⟩; (try first | exact ⟨rfl, _, World.drewN_drewN _ _ _⟩ | exact ⟨rfl, _, Eq.trans (World.drewN_drewN _ _ _) (congrArg (World.drewN _) (Nat.add_assoc _ _ _))⟩))); try go_wp2_with (first | (go_at_call 10; (with_reducible refine (lighterref09_May.calls a0_0 a0_1 a0_2 false _ A6.out).mono ?_); rintro e w' ⟨rfl, ⟨nd, rfl⟩⟩; (try first | exact ⟨rfl, _, World.drewN_drewN _ _ _⟩ | exact ⟨rfl, _, Eq.trans (World.drewN_drewN _ _ _) (congrArg (World.drewN _) (Nat.add_assoc _ _ _))⟩))))
      go_meet
      case rel => exact ⟨_, (true), (by first | rfl | (simp; done) | (simp [*]; done)), H', ⟨by first | omega | exact Nat.le_refl _⟩, ⟨by (with_reducible repeat (first | refine blk_drewN ?_ _ | refine blk_drew ?_ | refine blk_alloc ?_ _)); exact BK180.out⟩, ⟨by repeat (first | (with_reducible first | exact HB.out | apply below_alloc | apply pw_below_drewN | apply below_drew1 | refine below_set ?_ GE180.out) | exact HB.out)⟩⟩
  case rest =>
    clear HC4
    try clear c1
    try clear p2
    try clear c5
    try clear c7
    try clear c8
    try clear c8b0
    try clear c10
    try clear c10b0
    try clear c12
    try clear c12b0
    try clear c14
    try clear c14b0
    try clear hcz11_0
    try clear hcz11_1
    try clear hcz11_2
    try clear hcz13_0
    try clear hcz13_1
    try clear hcz13_2
    try clear hcz15_0
    try clear hcz15_1
    try clear hcz15_2
    try clear hcz16_0
    try clear hcz16_1
    try clear hcz16_2
    try clear hcz17_0
    try clear hcz17_1
    try clear hcz17_2
    try clear hcz9_0
    try clear hcz9_1
    try clear hcz9_2
    try clear hfz11_0
    try clear hfz11_1
    try clear hfz11_2
    try clear hfz13_0
    try clear hfz13_1
    try clear hfz13_2
    try clear hfz15_0
    try clear hfz15_1
    try clear hfz15_2
    try clear hfz16_0
    try clear hfz16_1
    try clear hfz16_2
    try clear hfz17_0
    try clear hfz17_1
    try clear hfz17_2
    try clear hfz9_0
    try clear hfz9_1
    try clear hfz9_2
    obtain ⟨kq, x44_3, rfl, HA, HJ3, BK180, HB⟩ := hcut
    cases kq with
    | zero => exact absurd HA.out (by simp [lighterlaw09_RingRound.j0])
    | succ kj3 =>
      have H := HA.out
      clear HA
      simp only [lighterlaw09_RingRound.j0] at H
      by_cases c18 : x44_3 = true
      · subst c18
        have H1 : ((lighterlaw09_awake.f kj3).bind fun t182 => (some t182)) = some r := by rw [if_pos rfl] at H; exact H
        clear H
        have H := H1
        clear H1
        replace H := Option.bind_eq_some_iff.mp H
        obtain ⟨t182, A190, H⟩ := H
        replace H : (some t182) = some r := H
        have A19 := Aside0.mk A190
        clear A190
        obtain rfl := Option.some.inj H
        go_wp2_with (first | (go_at_call 11; (with_reducible refine (lighterlaw09_awake.calls kj3  t182 _ A19.out).mono ?_); rintro e w20 ⟨rfl, hb⟩; have n0_ := Aside0.mk (blk_below (g := gb180) (o := .cells #[.int .i64 a0_0, .int .i64 a0_1, .int .i64 a0_2] 23 (0, 0)) (by (with_reducible repeat (first | refine blk_drewN ?_ _ | refine blk_drew ?_ | refine blk_alloc ?_ _)); exact BK180.out) hb); have n1_ := Aside0.mk (below_step (by repeat (first | (with_reducible first | exact HB.out | apply below_alloc | apply pw_below_drewN | apply below_drew1 | refine below_set ?_ GE180.out) | exact HB.out)) hb); clear BK180; clear HB; have BK180 := n0_; have HB := n1_; clear n0_ n1_; (try clear hb); (try clear hb2); (try clear hk); (try clear hi)))
        repeat (go_quiet (first | (go_at_call 11; (with_reducible refine (lighterlaw09_awake.calls kj3  t182 _ A19.out).mono ?_); rintro e w20 ⟨rfl, hb⟩; have n0_ := Aside0.mk (blk_below (g := gb180) (o := .cells #[.int .i64 a0_0, .int .i64 a0_1, .int .i64 a0_2] 23 (0, 0)) (by (with_reducible repeat (first | refine blk_drewN ?_ _ | refine blk_drew ?_ | refine blk_alloc ?_ _)); exact BK180.out) hb); have n1_ := Aside0.mk (below_step (by repeat (first | (with_reducible first | exact HB.out | apply below_alloc | apply pw_below_drewN | apply below_drew1 | refine below_set ?_ GE180.out) | exact HB.out)) hb); clear BK180; clear HB; have BK180 := n0_; have HB := n1_; clear n0_ n1_; (try clear hb); (try clear hb2); (try clear hk); (try clear hi))); try go_wp2_with (first | (go_at_call 11; (with_reducible refine (lighterlaw09_awake.calls kj3  t182 _ A19.out).mono ?_); rintro e w20 ⟨rfl, hb⟩; have n0_ := Aside0.mk (blk_below (g := gb180) (o := .cells #[.int .i64 a0_0, .int .i64 a0_1, .int .i64 a0_2] 23 (0, 0)) (by (with_reducible repeat (first | refine blk_drewN ?_ _ | refine blk_drew ?_ | refine blk_alloc ?_ _)); exact BK180.out) hb); have n1_ := Aside0.mk (below_step (by repeat (first | (with_reducible first | exact HB.out | apply below_alloc | apply pw_below_drewN | apply below_drew1 | refine below_set ?_ GE180.out) | exact HB.out)) hb); clear BK180; clear HB; have BK180 := n0_; have HB := n1_; clear n0_ n1_; (try clear hb); (try clear hb2); (try clear hk); (try clear hi))))
        go_ret
        exact ⟨by first | rfl | (simp [errW_none, errW_some] <;> rfl) | (simp [*, errW_none, errW_some] <;> rfl), by repeat (first | (with_reducible first | exact HB.out | apply below_alloc | apply pw_below_drewN | apply below_drew1 | refine below_set ?_ GE180.out) | exact HB.out)⟩
      · replace c18 := Bool.eq_false_iff.mpr c18
        subst c18
        have H1 : ((ring_Ring_At.f kj3 a0_0 a0_1 a0_2 a1 a2).bind fun bt183 => ((ring_Ring_At.f kj3 a0_0 a0_1 a0_2 (wrap64 (a1 + a0_0)) a2).bind fun bt187 => ((ring_Ring_At.f kj3 a0_0 a0_1 a0_2 a1 a0_0).bind fun bt191 => (if bt183.2 = 0 then (if bt187.2 = 0 then (if bt191.2 = 0 then ((lighterref01_Same.f kj3 bt183.1 bt187.1).bind fun t195 => (if t195 = true then ((lighterlaw09_size.f kj3 bt183.1).bind fun t196 => (if t196 = a2 then ((lighterlaw09_size.f kj3 bt191.1).bind fun t197 => (lighterlaw09_RingRound.j1 kj3 bt191.1 (t197 != a0_0) a0_0 a0_1 a0_2)) else (lighterlaw09_RingRound.j1 kj3 bt191.1 true a0_0 a0_1 a0_2))) else (lighterlaw09_RingRound.j1 kj3 bt191.1 true a0_0 a0_1 a0_2))) else (lighterlaw09_RingRound.j1 kj3 bt191.1 true a0_0 a0_1 a0_2)) else (lighterlaw09_RingRound.j1 kj3 bt191.1 true a0_0 a0_1 a0_2)) else (lighterlaw09_RingRound.j1 kj3 bt191.1 true a0_0 a0_1 a0_2))))) = some r := by rw [if_neg (show ¬ (false = true) by decide)] at H; exact H
        clear H
        have H := H1
        clear H1
        replace H := Option.bind_eq_some_iff.mp H
        obtain ⟨⟨t183, t186⟩, A210, H⟩ := H
        replace H : ((ring_Ring_At.f kj3 a0_0 a0_1 a0_2 (wrap64 (a1 + a0_0)) a2).bind fun bt187 => ((ring_Ring_At.f kj3 a0_0 a0_1 a0_2 a1 a0_0).bind fun bt191 => (if t186 = 0 then (if bt187.2 = 0 then (if bt191.2 = 0 then ((lighterref01_Same.f kj3 t183 bt187.1).bind fun t195 => (if t195 = true then ((lighterlaw09_size.f kj3 t183).bind fun t196 => (if t196 = a2 then ((lighterlaw09_size.f kj3 bt191.1).bind fun t197 => (lighterlaw09_RingRound.j1 kj3 bt191.1 (t197 != a0_0) a0_0 a0_1 a0_2)) else (lighterlaw09_RingRound.j1 kj3 bt191.1 true a0_0 a0_1 a0_2))) else (lighterlaw09_RingRound.j1 kj3 bt191.1 true a0_0 a0_1 a0_2))) else (lighterlaw09_RingRound.j1 kj3 bt191.1 true a0_0 a0_1 a0_2)) else (lighterlaw09_RingRound.j1 kj3 bt191.1 true a0_0 a0_1 a0_2)) else (lighterlaw09_RingRound.j1 kj3 bt191.1 true a0_0 a0_1 a0_2)))) = some r := H
        have A21 := Aside0.mk A210
        clear A210
        replace H := Option.bind_eq_some_iff.mp H
        obtain ⟨⟨t187, t190⟩, A220, H⟩ := H
        replace H : ((ring_Ring_At.f kj3 a0_0 a0_1 a0_2 a1 a0_0).bind fun bt191 => (if t186 = 0 then (if t190 = 0 then (if bt191.2 = 0 then ((lighterref01_Same.f kj3 t183 t187).bind fun t195 => (if t195 = true then ((lighterlaw09_size.f kj3 t183).bind fun t196 => (if t196 = a2 then ((lighterlaw09_size.f kj3 bt191.1).bind fun t197 => (lighterlaw09_RingRound.j1 kj3 bt191.1 (t197 != a0_0) a0_0 a0_1 a0_2)) else (lighterlaw09_RingRound.j1 kj3 bt191.1 true a0_0 a0_1 a0_2))) else (lighterlaw09_RingRound.j1 kj3 bt191.1 true a0_0 a0_1 a0_2))) else (lighterlaw09_RingRound.j1 kj3 bt191.1 true a0_0 a0_1 a0_2)) else (lighterlaw09_RingRound.j1 kj3 bt191.1 true a0_0 a0_1 a0_2)) else (lighterlaw09_RingRound.j1 kj3 bt191.1 true a0_0 a0_1 a0_2))) = some r := H
        have A22 := Aside0.mk A220
        clear A220
        replace H := Option.bind_eq_some_iff.mp H
        obtain ⟨⟨t191, t194⟩, A230, H⟩ := H
        replace H : (if t186 = 0 then (if t190 = 0 then (if t194 = 0 then ((lighterref01_Same.f kj3 t183 t187).bind fun t195 => (if t195 = true then ((lighterlaw09_size.f kj3 t183).bind fun t196 => (if t196 = a2 then ((lighterlaw09_size.f kj3 t191).bind fun t197 => (lighterlaw09_RingRound.j1 kj3 t191 (t197 != a0_0) a0_0 a0_1 a0_2)) else (lighterlaw09_RingRound.j1 kj3 t191 true a0_0 a0_1 a0_2))) else (lighterlaw09_RingRound.j1 kj3 t191 true a0_0 a0_1 a0_2))) else (lighterlaw09_RingRound.j1 kj3 t191 true a0_0 a0_1 a0_2)) else (lighterlaw09_RingRound.j1 kj3 t191 true a0_0 a0_1 a0_2)) else (lighterlaw09_RingRound.j1 kj3 t191 true a0_0 a0_1 a0_2)) = some r := H
        have A23 := Aside0.mk A230
        clear A230
        have HC24 := Aside0.mk H
        clear H
        have hcz25_0 : wc.cell? ⟨gb180, 0, none⟩ = some (.int .i64 a0_0) := (blk_cell BK180.out 0).trans rfl
        have hcz25_1 : wc.cell? ⟨gb180, 1, none⟩ = some (.int .i64 a0_1) := (blk_cell BK180.out 1).trans rfl
        have hcz25_2 : wc.cell? ⟨gb180, 2, none⟩ = some (.int .i64 a0_2) := (blk_cell BK180.out 2).trans rfl
        have hfz25_0 := blk_frozen BK180.out 0
        have hfz25_1 := blk_frozen BK180.out 1
        have hfz25_2 := blk_frozen BK180.out 2
        go_upto_region 6 with (first | (go_at_call 16; (with_reducible refine (ring_Ring_At.calls kj3 a0_0 a0_1 a0_2 a1 a2 t183 t186 _ A21.out).mono ?_); rintro e w26 ⟨v184, rfl, ho0, hb⟩; have n0_ := Aside0.mk (Kd.R_lower ho0 (below_size (by repeat (first | (with_reducible first | exact HB.out | apply below_alloc | apply pw_below_drewN | apply below_drew1 | refine below_set ?_ GE180.out) | exact HB.out)))); have n1_ := Aside0.mk (blk_below (g := gb180) (o := .cells #[.int .i64 a0_0, .int .i64 a0_1, .int .i64 a0_2] 23 (0, 0)) (by (with_reducible repeat (first | refine blk_drewN ?_ _ | refine blk_drew ?_ | refine blk_alloc ?_ _)); exact BK180.out) hb); have n2_ := Aside0.mk (below_step (by repeat (first | (with_reducible first | exact HB.out | apply below_alloc | apply pw_below_drewN | apply below_drew1 | refine below_set ?_ GE180.out) | exact HB.out)) hb); clear BK180; clear HB; have HO185 := n0_; have BK180 := n1_; have HB := n2_; clear n0_ n1_ n2_; (try clear hb); (try clear hb2); (try clear hk); (try clear hi); (try clear ho0); have hcz27_0 : w26.cell? ⟨gb180, 0, none⟩ = some (.int .i64 a0_0) := (blk_cell BK180.out 0).trans rfl; have hcz27_1 : w26.cell? ⟨gb180, 1, none⟩ = some (.int .i64 a0_1) := (blk_cell BK180.out 1).trans rfl; have hcz27_2 : w26.cell? ⟨gb180, 2, none⟩ = some (.int .i64 a0_2) := (blk_cell BK180.out 2).trans rfl; have hfz27_0 := blk_frozen BK180.out 0; have hfz27_1 := blk_frozen BK180.out 1; have hfz27_2 := blk_frozen BK180.out 2) | (go_at_call 16; (with_reducible refine (ring_Ring_At.calls kj3 a0_0 a0_1 a0_2 (wrap64 (a1 + a0_0)) a2 t187 t190 _ A22.out).mono ?_); rintro e w28 ⟨v188, rfl, ho0, hb⟩; have n0_ := Aside0.mk (Kd.R_elder' (by (with_reducible repeat (first | apply Kd.R_alloc | apply Kd.R_drewN | apply Kd.R_drew)); exact HO185.out) (Kd.R_base ho0) hb); have n1_ := Aside0.mk (Kd.R_lower (Kd.R_new' ho0 (Kd.R_lt (by (with_reducible repeat (first | apply Kd.R_alloc | apply Kd.R_drewN | apply Kd.R_drew)); exact HO185.out))) (below_size (by repeat (first | (with_reducible first | exact HB.out | apply below_alloc | apply pw_below_drewN | apply below_drew1 | refine below_set ?_ GE180.out) | exact HB.out)))); have n2_ := Aside0.mk (blk_below (g := gb180) (o := .cells #[.int .i64 a0_0, .int .i64 a0_1, .int .i64 a0_2] 23 (0, 0)) (by (with_reducible repeat (first | refine blk_drewN ?_ _ | refine blk_drew ?_ | refine blk_alloc ?_ _)); exact BK180.out) hb); have n3_ := Aside0.mk (below_step (by repeat (first | (with_reducible first | exact HB.out | apply below_alloc | apply pw_below_drewN | apply below_drew1 | refine below_set ?_ GE180.out) | exact HB.out)) hb); clear HO185; clear BK180; clear HB; have HO185 := n0_; have HO189 := n1_; have BK180 := n2_; have HB := n3_; clear n0_ n1_ n2_ n3_; (try clear hb); (try clear hb2); (try clear hk); (try clear hi); (try clear ho0); have hcz29_0 : w28.cell? ⟨gb180, 0, none⟩ = some (.int .i64 a0_0) := (blk_cell BK180.out 0).trans rfl; have hcz29_1 : w28.cell? ⟨gb180, 1, none⟩ = some (.int .i64 a0_1) := (blk_cell BK180.out 1).trans rfl; have hcz29_2 : w28.cell? ⟨gb180, 2, none⟩ = some (.int .i64 a0_2) := (blk_cell BK180.out 2).trans rfl; have hfz29_0 := blk_frozen BK180.out 0; have hfz29_1 := blk_frozen BK180.out 1; have hfz29_2 := blk_frozen BK180.out 2) | (go_at_call 16; (with_reducible refine (ring_Ring_At.calls kj3 a0_0 a0_1 a0_2 a1 a0_0 t191 t194 _ A23.out).mono ?_); rintro e w30 ⟨v192, rfl, ho0, hb⟩; have n0_ := Aside0.mk (Kd.R_elder' (by (with_reducible repeat (first | apply Kd.R_alloc | apply Kd.R_drewN | apply Kd.R_drew)); exact HO185.out) (Kd.R_base ho0) hb); have n1_ := Aside0.mk (Kd.R_elder' (by (with_reducible repeat (first | apply Kd.R_alloc | apply Kd.R_drewN | apply Kd.R_drew)); exact HO189.out) (Kd.R_base ho0) hb); have n2_ := Aside0.mk (Kd.R_lower (Kd.R_new' (Kd.R_new' ho0 (Kd.R_lt (by (with_reducible repeat (first | apply Kd.R_alloc | apply Kd.R_drewN | apply Kd.R_drew)); exact HO185.out))) (Kd.R_lt (by (with_reducible repeat (first | apply Kd.R_alloc | apply Kd.R_drewN | apply Kd.R_drew)); exact HO189.out))) (below_size (by repeat (first | (with_reducible first | exact HB.out | apply below_alloc | apply pw_below_drewN | apply below_drew1 | refine below_set ?_ GE180.out) | exact HB.out)))); have n3_ := Aside0.mk (blk_below (g := gb180) (o := .cells #[.int .i64 a0_0, .int .i64 a0_1, .int .i64 a0_2] 23 (0, 0)) (by (with_reducible repeat (first | refine blk_drewN ?_ _ | refine blk_drew ?_ | refine blk_alloc ?_ _)); exact BK180.out) hb); have n4_ := Aside0.mk (below_step (by repeat (first | (with_reducible first | exact HB.out | apply below_alloc | apply pw_below_drewN | apply below_drew1 | refine below_set ?_ GE180.out) | exact HB.out)) hb); clear HO185; clear HO189; clear BK180; clear HB; have HO185 := n0_; have HO189 := n1_; have HO193 := n2_; have BK180 := n3_; have HB := n4_; clear n0_ n1_ n2_ n3_ n4_; (try clear hb); (try clear hb2); (try clear hk); (try clear hi); (try clear ho0)))
        repeat (go_quiet (first | (go_at_call 16; (with_reducible refine (ring_Ring_At.calls kj3 a0_0 a0_1 a0_2 a1 a2 t183 t186 _ A21.out).mono ?_); rintro e w26 ⟨v184, rfl, ho0, hb⟩; have n0_ := Aside0.mk (Kd.R_lower ho0 (below_size (by repeat (first | (with_reducible first | exact HB.out | apply below_alloc | apply pw_below_drewN | apply below_drew1 | refine below_set ?_ GE180.out) | exact HB.out)))); have n1_ := Aside0.mk (blk_below (g := gb180) (o := .cells #[.int .i64 a0_0, .int .i64 a0_1, .int .i64 a0_2] 23 (0, 0)) (by (with_reducible repeat (first | refine blk_drewN ?_ _ | refine blk_drew ?_ | refine blk_alloc ?_ _)); exact BK180.out) hb); have n2_ := Aside0.mk (below_step (by repeat (first | (with_reducible first | exact HB.out | apply below_alloc | apply pw_below_drewN | apply below_drew1 | refine below_set ?_ GE180.out) | exact HB.out)) hb); clear BK180; clear HB; have HO185 := n0_; have BK180 := n1_; have HB := n2_; clear n0_ n1_ n2_; (try clear hb); (try clear hb2); (try clear hk); (try clear hi); (try clear ho0); have hcz27_0 : w26.cell? ⟨gb180, 0, none⟩ = some (.int .i64 a0_0) := (blk_cell BK180.out 0).trans rfl; have hcz27_1 : w26.cell? ⟨gb180, 1, none⟩ = some (.int .i64 a0_1) := (blk_cell BK180.out 1).trans rfl; have hcz27_2 : w26.cell? ⟨gb180, 2, none⟩ = some (.int .i64 a0_2) := (blk_cell BK180.out 2).trans rfl; have hfz27_0 := blk_frozen BK180.out 0; have hfz27_1 := blk_frozen BK180.out 1; have hfz27_2 := blk_frozen BK180.out 2) | (go_at_call 16; (with_reducible refine (ring_Ring_At.calls kj3 a0_0 a0_1 a0_2 (wrap64 (a1 + a0_0)) a2 t187 t190 _ A22.out).mono ?_); rintro e w28 ⟨v188, rfl, ho0, hb⟩; have n0_ := Aside0.mk (Kd.R_elder' (by (with_reducible repeat (first | apply Kd.R_alloc | apply Kd.R_drewN | apply Kd.R_drew)); exact HO185.out) (Kd.R_base ho0) hb); have n1_ := Aside0.mk (Kd.R_lower (Kd.R_new' ho0 (Kd.R_lt (by (with_reducible repeat (first | apply Kd.R_alloc | apply Kd.R_drewN | apply Kd.R_drew)); exact HO185.out))) (below_size (by repeat (first | (with_reducible first | exact HB.out | apply below_alloc | apply pw_below_drewN | apply below_drew1 | refine below_set ?_ GE180.out) | exact HB.out)))); have n2_ := Aside0.mk (blk_below (g := gb180) (o := .cells #[.int .i64 a0_0, .int .i64 a0_1, .int .i64 a0_2] 23 (0, 0)) (by (with_reducible repeat (first | refine blk_drewN ?_ _ | refine blk_drew ?_ | refine blk_alloc ?_ _)); exact BK180.out) hb); have n3_ := Aside0.mk (below_step (by repeat (first | (with_reducible first | exact HB.out | apply below_alloc | apply pw_below_drewN | apply below_drew1 | refine below_set ?_ GE180.out) | exact HB.out)) hb); clear HO185; clear BK180; clear HB; have HO185 := n0_; have HO189 := n1_; have BK180 := n2_; have HB := n3_; clear n0_ n1_ n2_ n3_; (try clear hb); (try clear hb2); (try clear hk); (try clear hi); (try clear ho0); have hcz29_0 : w28.cell? ⟨gb180, 0, none⟩ = some (.int .i64 a0_0) := (blk_cell BK180.out 0).trans rfl; have hcz29_1 : w28.cell? ⟨gb180, 1, none⟩ = some (.int .i64 a0_1) := (blk_cell BK180.out 1).trans rfl; have hcz29_2 : w28.cell? ⟨gb180, 2, none⟩ = some (.int .i64 a0_2) := (blk_cell BK180.out 2).trans rfl; have hfz29_0 := blk_frozen BK180.out 0; have hfz29_1 := blk_frozen BK180.out 1; have hfz29_2 := blk_frozen BK180.out 2) | (go_at_call 16; (with_reducible refine (ring_Ring_At.calls kj3 a0_0 a0_1 a0_2 a1 a0_0 t191 t194 _ A23.out).mono ?_); rintro e w30 ⟨v192, rfl, ho0, hb⟩; have n0_ := Aside0.mk (Kd.R_elder' (by (with_reducible repeat (first | apply Kd.R_alloc | apply Kd.R_drewN | apply Kd.R_drew)); exact HO185.out) (Kd.R_base ho0) hb); have n1_ := Aside0.mk (Kd.R_elder' (by (with_reducible repeat (first | apply Kd.R_alloc | apply Kd.R_drewN | apply Kd.R_drew)); exact HO189.out) (Kd.R_base ho0) hb); have n2_ := Aside0.mk (Kd.R_lower (Kd.R_new' (Kd.R_new' ho0 (Kd.R_lt (by (with_reducible repeat (first | apply Kd.R_alloc | apply Kd.R_drewN | apply Kd.R_drew)); exact HO185.out))) (Kd.R_lt (by (with_reducible repeat (first | apply Kd.R_alloc | apply Kd.R_drewN | apply Kd.R_drew)); exact HO189.out))) (below_size (by repeat (first | (with_reducible first | exact HB.out | apply below_alloc | apply pw_below_drewN | apply below_drew1 | refine below_set ?_ GE180.out) | exact HB.out)))); have n3_ := Aside0.mk (blk_below (g := gb180) (o := .cells #[.int .i64 a0_0, .int .i64 a0_1, .int .i64 a0_2] 23 (0, 0)) (by (with_reducible repeat (first | refine blk_drewN ?_ _ | refine blk_drew ?_ | refine blk_alloc ?_ _)); exact BK180.out) hb); have n4_ := Aside0.mk (below_step (by repeat (first | (with_reducible first | exact HB.out | apply below_alloc | apply pw_below_drewN | apply below_drew1 | refine below_set ?_ GE180.out) | exact HB.out)) hb); clear HO185; clear HO189; clear BK180; clear HB; have HO185 := n0_; have HO189 := n1_; have HO193 := n2_; have BK180 := n3_; have HB := n4_; clear n0_ n1_ n2_ n3_ n4_; (try clear hb); (try clear hb2); (try clear hk); (try clear hi); (try clear ho0))); go_upto_region 6 with (first | (go_at_call 16; (with_reducible refine (ring_Ring_At.calls kj3 a0_0 a0_1 a0_2 a1 a2 t183 t186 _ A21.out).mono ?_); rintro e w26 ⟨v184, rfl, ho0, hb⟩; have n0_ := Aside0.mk (Kd.R_lower ho0 (below_size (by repeat (first | (with_reducible first | exact HB.out | apply below_alloc | apply pw_below_drewN | apply below_drew1 | refine below_set ?_ GE180.out) | exact HB.out)))); have n1_ := Aside0.mk (blk_below (g := gb180) (o := .cells #[.int .i64 a0_0, .int .i64 a0_1, .int .i64 a0_2] 23 (0, 0)) (by (with_reducible repeat (first | refine blk_drewN ?_ _ | refine blk_drew ?_ | refine blk_alloc ?_ _)); exact BK180.out) hb); have n2_ := Aside0.mk (below_step (by repeat (first | (with_reducible first | exact HB.out | apply below_alloc | apply pw_below_drewN | apply below_drew1 | refine below_set ?_ GE180.out) | exact HB.out)) hb); clear BK180; clear HB; have HO185 := n0_; have BK180 := n1_; have HB := n2_; clear n0_ n1_ n2_; (try clear hb); (try clear hb2); (try clear hk); (try clear hi); (try clear ho0); have hcz27_0 : w26.cell? ⟨gb180, 0, none⟩ = some (.int .i64 a0_0) := (blk_cell BK180.out 0).trans rfl; have hcz27_1 : w26.cell? ⟨gb180, 1, none⟩ = some (.int .i64 a0_1) := (blk_cell BK180.out 1).trans rfl; have hcz27_2 : w26.cell? ⟨gb180, 2, none⟩ = some (.int .i64 a0_2) := (blk_cell BK180.out 2).trans rfl; have hfz27_0 := blk_frozen BK180.out 0; have hfz27_1 := blk_frozen BK180.out 1; have hfz27_2 := blk_frozen BK180.out 2) | (go_at_call 16; (with_reducible refine (ring_Ring_At.calls kj3 a0_0 a0_1 a0_2 (wrap64 (a1 + a0_0)) a2 t187 t190 _ A22.out).mono ?_); rintro e w28 ⟨v188, rfl, ho0, hb⟩; have n0_ := Aside0.mk (Kd.R_elder' (by (with_reducible repeat (first | apply Kd.R_alloc | apply Kd.R_drewN | apply Kd.R_drew)); exact HO185.out) (Kd.R_base ho0) hb); have n1_ := Aside0.mk (Kd.R_lower (Kd.R_new' ho0 (Kd.R_lt (by (with_reducible repeat (first | apply Kd.R_alloc | apply Kd.R_drewN | apply Kd.R_drew)); exact HO185.out))) (below_size (by repeat (first | (with_reducible first | exact HB.out | apply below_alloc | apply pw_below_drewN | apply below_drew1 | refine below_set ?_ GE180.out) | exact HB.out)))); have n2_ := Aside0.mk (blk_below (g := gb180) (o := .cells #[.int .i64 a0_0, .int .i64 a0_1, .int .i64 a0_2] 23 (0, 0)) (by (with_reducible repeat (first | refine blk_drewN ?_ _ | refine blk_drew ?_ | refine blk_alloc ?_ _)); exact BK180.out) hb); have n3_ := Aside0.mk (below_step (by repeat (first | (with_reducible first | exact HB.out | apply below_alloc | apply pw_below_drewN | apply below_drew1 | refine below_set ?_ GE180.out) | exact HB.out)) hb); clear HO185; clear BK180; clear HB; have HO185 := n0_; have HO189 := n1_; have BK180 := n2_; have HB := n3_; clear n0_ n1_ n2_ n3_; (try clear hb); (try clear hb2); (try clear hk); (try clear hi); (try clear ho0); have hcz29_0 : w28.cell? ⟨gb180, 0, none⟩ = some (.int .i64 a0_0) := (blk_cell BK180.out 0).trans rfl; have hcz29_1 : w28.cell? ⟨gb180, 1, none⟩ = some (.int .i64 a0_1) := (blk_cell BK180.out 1).trans rfl; have hcz29_2 : w28.cell? ⟨gb180, 2, none⟩ = some (.int .i64 a0_2) := (blk_cell BK180.out 2).trans rfl; have hfz29_0 := blk_frozen BK180.out 0; have hfz29_1 := blk_frozen BK180.out 1; have hfz29_2 := blk_frozen BK180.out 2) | (go_at_call 16; (with_reducible refine (ring_Ring_At.calls kj3 a0_0 a0_1 a0_2 a1 a0_0 t191 t194 _ A23.out).mono ?_); rintro e w30 ⟨v192, rfl, ho0, hb⟩; have n0_ := Aside0.mk (Kd.R_elder' (by (with_reducible repeat (first | apply Kd.R_alloc | apply Kd.R_drewN | apply Kd.R_drew)); exact HO185.out) (Kd.R_base ho0) hb); have n1_ := Aside0.mk (Kd.R_elder' (by (with_reducible repeat (first | apply Kd.R_alloc | apply Kd.R_drewN | apply Kd.R_drew)); exact HO189.out) (Kd.R_base ho0) hb); have n2_ := Aside0.mk (Kd.R_lower (Kd.R_new' (Kd.R_new' ho0 (Kd.R_lt (by (with_reducible repeat (first | apply Kd.R_alloc | apply Kd.R_drewN | apply Kd.R_drew)); exact HO185.out))) (Kd.R_lt (by (with_reducible repeat (first | apply Kd.R_alloc | apply Kd.R_drewN | apply Kd.R_drew)); exact HO189.out))) (below_size (by repeat (first | (with_reducible first | exact HB.out | apply below_alloc | apply pw_below_drewN | apply below_drew1 | refine below_set ?_ GE180.out) | exact HB.out)))); have n3_ := Aside0.mk (blk_below (g := gb180) (o := .cells #[.int .i64 a0_0, .int .i64 a0_1, .int .i64 a0_2] 23 (0, 0)) (by (with_reducible repeat (first | refine blk_drewN ?_ _ | refine blk_drew ?_ | refine blk_alloc ?_ _)); exact BK180.out) hb); have n4_ := Aside0.mk (below_step (by repeat (first | (with_reducible first | exact HB.out | apply below_alloc | apply pw_below_drewN | apply below_drew1 | refine below_set ?_ GE180.out) | exact HB.out)) hb); clear HO185; clear HO189; clear BK180; clear HB; have HO185 := n0_; have HO189 := n1_; have HO193 := n2_; have BK180 := n3_; have HB := n4_; clear n0_ n1_ n2_ n3_ n4_; (try clear hb); (try clear hb2); (try clear hk); (try clear hi); (try clear ho0))))
        (try simp only [Act.put, List.setIfInBounds_toArray, List.set_cons_zero, List.set_cons_succ])
        go_cut [99] (fun v99 wc => ∃ (kq : Nat) (x99_23 : Bool), v99 = .bool x99_23 ∧ Aside0 (lighterlaw09_RingRound.j1 kq t191 x99_23 a0_0 a0_1 a0_2 = some r) ∧ Aside0 (kq ≤ kj3) ∧ Aside0 (Kd.R k47 47 wc w.heap.size (fun _ => True) v192 t191) ∧ Aside0 (wc.heap[gb180]? = some (.cells #[.int .i64 a0_0, .int .i64 a0_1, .int .i64 a0_2] 23 (0, 0))) ∧ Aside0 (Below w.heap.size w wc))
        case first =>
          have H := HC24.out
          clear HC24
          by_cases c31 : t186 = 0
          · rw [if_pos c31] at H
            have c31b0 : (t186 == 0) = true := beq_iff_eq.mpr c31
            have c31b1 : (t186 != 0) = false := bne_eq_false_iff_eq.mpr c31
            clear c31
            (first | rw [c31b0] | (simp only [i64_w, i32_w]; rw [c31b0]) | skip)
            by_cases c32 : t190 = 0
            · rw [if_pos c32] at H
              have c32b0 : (t190 == 0) = true := beq_iff_eq.mpr c32
              have c32b1 : (t190 != 0) = false := bne_eq_false_iff_eq.mpr c32
              clear c32
              by_cases c33 : t194 = 0
              · rw [if_pos c33] at H
                have c33b0 : (t194 == 0) = true := beq_iff_eq.mpr c33
                have c33b1 : (t194 != 0) = false := bne_eq_false_iff_eq.mpr c33
                clear c33
                replace H := Option.bind_eq_some_iff.mp H
                obtain ⟨t195, A340, H⟩ := H
                replace H : (if t195 = true then ((lighterlaw09_size.f kj3 t183).bind fun t196 => (if t196 = a2 then ((lighterlaw09_size.f kj3 t191).bind fun t197 => (lighterlaw09_RingRound.j1 kj3 t191 (t197 != a0_0) a0_0 a0_1 a0_2)) else (lighterlaw09_RingRound.j1 kj3 t191 true a0_0 a0_1 a0_2))) else (lighterlaw09_RingRound.j1 kj3 t191 true a0_0 a0_1 a0_2)) = some r := H
                have A34 := Aside0.mk A340
                clear A340
                by_cases c35 : t195 = true
                · subst c35
                  have H1 : ((lighterlaw09_size.f kj3 t183).bind fun t196 => (if t196 = a2 then ((lighterlaw09_size.f kj3 t191).bind fun t197 => (lighterlaw09_RingRound.j1 kj3 t191 (t197 != a0_0) a0_0 a0_1 a0_2)) else (lighterlaw09_RingRound.j1 kj3 t191 true a0_0 a0_1 a0_2))) = some r := by rw [if_pos rfl] at H; exact H
                  clear H
                  have H := H1
                  clear H1
                  replace H := Option.bind_eq_some_iff.mp H
                  obtain ⟨t196, A360, H⟩ := H
                  replace H : (if t196 = a2 then ((lighterlaw09_size.f kj3 t191).bind fun t197 => (lighterlaw09_RingRound.j1 kj3 t191 (t197 != a0_0) a0_0 a0_1 a0_2)) else (lighterlaw09_RingRound.j1 kj3 t191 true a0_0 a0_1 a0_2)) = some r := H
                  have A36 := Aside0.mk A360
                  clear A360
                  by_cases c37 : t196 = a2
                  · rw [if_pos c37] at H
                    have c37b0 : (t196 == a2) = true := beq_iff_eq.mpr c37
                    have c37b1 : (t196 != a2) = false := bne_eq_false_iff_eq.mpr c37
                    clear c37
                    replace H := Option.bind_eq_some_iff.mp H
                    obtain ⟨t197, A380, H⟩ := H
                    replace H : (lighterlaw09_RingRound.j1 kj3 t191 (t197 != a0_0) a0_0 a0_1 a0_2) = some r := H
                    have A38 := Aside0.mk A380
                    clear A380
                    have H' := Aside0.mk H
                    clear H
                    obtain ⟨Ao39, co39, eo39⟩ := Kd.R_slice HO185.out
                    subst eo39
                    obtain ⟨Ao40, co40, eo40⟩ := Kd.R_slice HO189.out
                    subst eo40
                    go_wp2_with (first | (go_at_call 12; (with_reducible refine (lighterref01_Same.calls kj3 _ _ t183 _ _ t187 true _ ?side1 ?side2 ?side3 ?side4 A34.out).mono ?_); (case side1 => repeat (first | exact (Kd.R_reads' HO185.out).2.2 | (with_reducible refine Kd.C_alloc ?_ _) | (with_reducible refine Kd.C_drewN ?_ _) | (with_reducible refine Kd.C_drew ?_))); (case side2 => exact (Kd.R_reads' HO185.out).2.1); (case side3 => repeat (first | exact (Kd.R_reads' HO189.out).2.2 | (with_reducible refine Kd.C_alloc ?_ _) | (with_reducible refine Kd.C_drewN ?_ _) | (with_reducible refine Kd.C_drew ?_))); (case side4 => exact (Kd.R_reads' HO189.out).2.1); rintro e w' ⟨rfl, ⟨nd, rfl⟩⟩; (try first | exact ⟨rfl, _, World.drewN_drewN _ _ _⟩ | exact ⟨rfl, _, Eq.trans (World.drewN_drewN _ _ _) (congrArg (World.drewN _) (Nat.add_assoc _ _ _))⟩)) | (go_at_call 14; (with_reducible refine (lighterlaw09_size.calls kj3 _ _ t183 t196 _ ?side1 ?side2 A36.out).mono ?_); (case side1 => repeat (first | exact (Kd.R_reads' HO185.out).2.2 | (with_reducible refine Kd.C_alloc ?_ _) | (with_reducible refine Kd.C_drewN ?_ _) | (with_reducible refine Kd.C_drew ?_))); (case side2 => exact (Kd.R_reads' HO185.out).2.1); rintro e w' ⟨rfl, ⟨nd, rfl⟩⟩; (try first | exact ⟨rfl, _, World.drewN_drewN _ _ _⟩ | exact ⟨rfl, _, Eq.trans (World.drewN_drewN _ _ _) (congrArg (World.drewN _) (Nat.add_assoc _ _ _))⟩); obtain ⟨Ao41, co41, eo41⟩ := Kd.R_slice HO193.out; subst eo41) | (go_at_call 14; (with_reducible refine (lighterlaw09_size.calls kj3 _ _ t191 t197 _ ?side1 ?side2 A38.out).mono ?_); (case side1 => repeat (first | exact (Kd.R_reads' HO193.out).2.2 | (with_reducible refine Kd.C_alloc ?_ _) | (with_reducible refine Kd.C_drewN ?_ _) | (with_reducible refine Kd.C_drew ?_))); (case side2 => exact (Kd.R_reads' HO193.out).2.1); rintro e w' ⟨rfl, ⟨nd, rfl⟩⟩; (try first | exact ⟨rfl, _, World.drewN_drewN _ _ _⟩ | exact ⟨rfl, _, Eq.trans (World.drewN_drewN _ _ _) (congrArg (World.drewN _) (Nat.add_assoc _ _ _))⟩); have hcz42_0 : w30.cell? ⟨gb180, 0, none⟩ = some (.int .i64 a0_0) := (blk_cell BK180.out 0).trans rfl; have hcz42_1 : w30.cell? ⟨gb180, 1, none⟩ = some (.int .i64 a0_1) := (blk_cell BK180.out 1).trans rfl; have hcz42_2 : w30.cell? ⟨gb180, 2, none⟩ = some (.int .i64 a0_2) := (blk_cell BK180.out 2).trans rfl; have hfz42_0 := blk_frozen BK180.out 0; have hfz42_1 := blk_frozen BK180.out 1; have hfz42_2 := blk_frozen BK180.out 2))
                    repeat (go_quiet (first | (go_at_call 12; (with_reducible refine (lighterref01_Same.calls kj3 _ _ t183 _ _ t187 true _ ?side1 ?side2 ?side3 ?side4 A34.out).mono ?_); (case side1 => repeat (first | exact (Kd.R_reads' HO185.out).2.2 | (with_reducible refine Kd.C_alloc ?_ _) | (with_reducible refine Kd.C_drewN ?_ _) | (with_reducible refine Kd.C_drew ?_))); (case side2 => exact (Kd.R_reads' HO185.out).2.1); (case side3 => repeat (first | exact (Kd.R_reads' HO189.out).2.2 | (with_reducible refine Kd.C_alloc ?_ _) | (with_reducible refine Kd.C_drewN ?_ _) | (with_reducible refine Kd.C_drew ?_))); (case side4 => exact (Kd.R_reads' HO189.out).2.1); rintro e w' ⟨rfl, ⟨nd, rfl⟩⟩; (try first | exact ⟨rfl, _, World.drewN_drewN _ _ _⟩ | exact ⟨rfl, _, Eq.trans (World.drewN_drewN _ _ _) (congrArg (World.drewN _) (Nat.add_assoc _ _ _))⟩)) | (go_at_call 14; (with_reducible refine (lighterlaw09_size.calls kj3 _ _ t183 t196 _ ?side1 ?side2 A36.out).mono ?_); (case side1 => repeat (first | exact (Kd.R_reads' HO185.out).2.2 | (with_reducible refine Kd.C_alloc ?_ _) | (with_reducible refine Kd.C_drewN ?_ _) | (with_reducible refine Kd.C_drew ?_))); (case side2 => exact (Kd.R_reads' HO185.out).2.1); rintro e w' ⟨rfl, ⟨nd, rfl⟩⟩; (try first | exact ⟨rfl, _, World.drewN_drewN _ _ _⟩ | exact ⟨rfl, _, Eq.trans (World.drewN_drewN _ _ _) (congrArg (World.drewN _) (Nat.add_assoc _ _ _))⟩); obtain ⟨Ao41, co41, eo41⟩ := Kd.R_slice HO193.out; subst eo41) | (go_at_call 14; (with_reducible refine (lighterlaw09_size.calls kj3 _ _ t191 t197 _ ?side1 ?side2 A38.out).mono ?_); (case side1 => repeat (first | exact (Kd.R_reads' HO193.out).2.2 | (with_reducible refine Kd.C_alloc ?_ _) | (with_reducible refine Kd.C_drewN ?_ _) | (with_reducible refine Kd.C_drew ?_))); (case side2 => exact (Kd.R_reads' HO193.out).2.1); rintro e w' ⟨rfl, ⟨nd, rfl⟩⟩; (try first | exact ⟨rfl, _, World.drewN_drewN _ _ _⟩ | exact ⟨rfl, _, Eq.trans (World.drewN_drewN _ _ _) (congrArg (World.drewN _) (Nat.add_assoc _ _ _))⟩); have hcz42_0 : w30.cell? ⟨gb180, 0, none⟩ = some (.int .i64 a0_0) := (blk_cell BK180.out 0).trans rfl; have hcz42_1 : w30.cell? ⟨gb180, 1, none⟩ = some (.int .i64 a0_1) := (blk_cell BK180.out 1).trans rfl; have hcz42_2 : w30.cell? ⟨gb180, 2, none⟩ = some (.int .i64 a0_2) := (blk_cell BK180.out 2).trans rfl; have hfz42_0 := blk_frozen BK180.out 0; have hfz42_1 := blk_frozen BK180.out 1; have hfz42_2 := blk_frozen BK180.out 2)); try go_wp2_with (first | (go_at_call 12; (with_reducible refine (lighterref01_Same.calls kj3 _ _ t183 _ _ t187 true _ ?side1 ?side2 ?side3 ?side4 A34.out).mono ?_); (case side1 => repeat (first | exact (Kd.R_reads' HO185.out).2.2 | (with_reducible refine Kd.C_alloc ?_ _) | (with_reducible refine Kd.C_drewN ?_ _) | (with_reducible refine Kd.C_drew ?_))); (case side2 => exact (Kd.R_reads' HO185.out).2.1); (case side3 => repeat (first | exact (Kd.R_reads' HO189.out).2.2 | (with_reducible refine Kd.C_alloc ?_ _) | (with_reducible refine Kd.C_drewN ?_ _) | (with_reducible refine Kd.C_drew ?_))); (case side4 => exact (Kd.R_reads' HO189.out).2.1); rintro e w' ⟨rfl, ⟨nd, rfl⟩⟩; (try first | exact ⟨rfl, _, World.drewN_drewN _ _ _⟩ | exact ⟨rfl, _, Eq.trans (World.drewN_drewN _ _ _) (congrArg (World.drewN _) (Nat.add_assoc _ _ _))⟩)) | (go_at_call 14; (with_reducible refine (lighterlaw09_size.calls kj3 _ _ t183 t196 _ ?side1 ?side2 A36.out).mono ?_); (case side1 => repeat (first | exact (Kd.R_reads' HO185.out).2.2 | (with_reducible refine Kd.C_alloc ?_ _) | (with_reducible refine Kd.C_drewN ?_ _) | (with_reducible refine Kd.C_drew ?_))); (case side2 => exact (Kd.R_reads' HO185.out).2.1); rintro e w' ⟨rfl, ⟨nd, rfl⟩⟩; (try first | exact ⟨rfl, _, World.drewN_drewN _ _ _⟩ | exact ⟨rfl, _, Eq.trans (World.drewN_drewN _ _ _) (congrArg (World.drewN _) (Nat.add_assoc _ _ _))⟩); obtain ⟨Ao41, co41, eo41⟩ := Kd.R_slice HO193.out; subst eo41) | (go_at_call 14; (with_reducible refine (lighterlaw09_size.calls kj3 _ _ t191 t197 _ ?side1 ?side2 A38.out).mono ?_); (case side1 => repeat (first | exact (Kd.R_reads' HO193.out).2.2 | (with_reducible refine Kd.C_alloc ?_ _) | (with_reducible refine Kd.C_drewN ?_ _) | (with_reducible refine Kd.C_drew ?_))); (case side2 => exact (Kd.R_reads' HO193.out).2.1); rintro e w' ⟨rfl, ⟨nd, rfl⟩⟩; (try first | exact ⟨rfl, _, World.drewN_drewN _ _ _⟩ | exact ⟨rfl, _, Eq.trans (World.drewN_drewN _ _ _) (congrArg (World.drewN _) (Nat.add_assoc _ _ _))⟩); have hcz42_0 : w30.cell? ⟨gb180, 0, none⟩ = some (.int .i64 a0_0) := (blk_cell BK180.out 0).trans rfl; have hcz42_1 : w30.cell? ⟨gb180, 1, none⟩ = some (.int .i64 a0_1) := (blk_cell BK180.out 1).trans rfl; have hcz42_2 : w30.cell? ⟨gb180, 2, none⟩ = some (.int .i64 a0_2) := (blk_cell BK180.out 2).trans rfl; have hfz42_0 := blk_frozen BK180.out 0; have hfz42_1 := blk_frozen BK180.out 1; have hfz42_2 := blk_frozen BK180.out 2)))
                    go_meet
                    case rel => exact ⟨_, ((t197 != a0_0)), (by first | rfl | (simp; done) | (simp [*]; done)), H', ⟨by have := HJ3.out; first | omega | exact Nat.le_refl _⟩, ⟨by (with_reducible repeat (first | apply Kd.R_alloc | apply Kd.R_drewN | apply Kd.R_drew)); exact Kd.R_mono HO193.out (fun _ hk => trivial)⟩, ⟨by (with_reducible repeat (first | refine blk_drewN ?_ _ | refine blk_drew ?_ | refine blk_alloc ?_ _)); exact BK180.out⟩, ⟨by repeat (first | (with_reducible first | exact HB.out | apply below_alloc | apply pw_below_drewN | apply below_drew1 | refine below_set ?_ GE180.out) | exact HB.out)⟩⟩
                  · rw [if_neg c37] at H
                    have c37b0 : (t196 == a2) = false := beq_eq_false_iff_ne.mpr c37
                    have c37b1 : (t196 != a2) = true := bne_iff_ne.mpr c37
                    have H' := Aside0.mk H
                    clear H
                    obtain ⟨Ao43, co43, eo43⟩ := Kd.R_slice HO185.out
                    subst eo43
                    obtain ⟨Ao44, co44, eo44⟩ := Kd.R_slice HO189.out
                    subst eo44
                    go_wp2_with (first | (go_at_call 12; (with_reducible refine (lighterref01_Same.calls kj3 _ _ t183 _ _ t187 true _ ?side1 ?side2 ?side3 ?side4 A34.out).mono ?_); (case side1 => repeat (first | exact (Kd.R_reads' HO185.out).2.2 | (with_reducible refine Kd.C_alloc ?_ _) | (with_reducible refine Kd.C_drewN ?_ _) | (with_reducible refine Kd.C_drew ?_))); (case side2 => exact (Kd.R_reads' HO185.out).2.1); (case side3 => repeat (first | exact (Kd.R_reads' HO189.out).2.2 | (with_reducible refine Kd.C_alloc ?_ _) | (with_reducible refine Kd.C_drewN ?_ _) | (with_reducible refine Kd.C_drew ?_))); (case side4 => exact (Kd.R_reads' HO189.out).2.1); rintro e w' ⟨rfl, ⟨nd, rfl⟩⟩; (try first | exact ⟨rfl, _, World.drewN_drewN _ _ _⟩ | exact ⟨rfl, _, Eq.trans (World.drewN_drewN _ _ _) (congrArg (World.drewN _) (Nat.add_assoc _ _ _))⟩)) | (go_at_call 14; (with_reducible refine (lighterlaw09_size.calls kj3 _ _ t183 t196 _ ?side1 ?side2 A36.out).mono ?_); (case side1 => repeat (first | exact (Kd.R_reads' HO185.out).2.2 | (with_reducible refine Kd.C_alloc ?_ _) | (with_reducible refine Kd.C_drewN ?_ _) | (with_reducible refine Kd.C_drew ?_))); (case side2 => exact (Kd.R_reads' HO185.out).2.1); rintro e w' ⟨rfl, ⟨nd, rfl⟩⟩; (try first | exact ⟨rfl, _, World.drewN_drewN _ _ _⟩ | exact ⟨rfl, _, Eq.trans (World.drewN_drewN _ _ _) (congrArg (World.drewN _) (Nat.add_assoc _ _ _))⟩)))
                    repeat (go_quiet (first | (go_at_call 12; (with_reducible refine (lighterref01_Same.calls kj3 _ _ t183 _ _ t187 true _ ?side1 ?side2 ?side3 ?side4 A34.out).mono ?_); (case side1 => repeat (first | exact (Kd.R_reads' HO185.out).2.2 | (with_reducible refine Kd.C_alloc ?_ _) | (with_reducible refine Kd.C_drewN ?_ _) | (with_reducible refine Kd.C_drew ?_))); (case side2 => exact (Kd.R_reads' HO185.out).2.1); (case side3 => repeat (first | exact (Kd.R_reads' HO189.out).2.2 | (with_reducible refine Kd.C_alloc ?_ _) | (with_reducible refine Kd.C_drewN ?_ _) | (with_reducible refine Kd.C_drew ?_))); (case side4 => exact (Kd.R_reads' HO189.out).2.1); rintro e w' ⟨rfl, ⟨nd, rfl⟩⟩; (try first | exact ⟨rfl, _, World.drewN_drewN _ _ _⟩ | exact ⟨rfl, _, Eq.trans (World.drewN_drewN _ _ _) (congrArg (World.drewN _) (Nat.add_assoc _ _ _))⟩)) | (go_at_call 14; (with_reducible refine (lighterlaw09_size.calls kj3 _ _ t183 t196 _ ?side1 ?side2 A36.out).mono ?_); (case side1 => repeat (first | exact (Kd.R_reads' HO185.out).2.2 | (with_reducible refine Kd.C_alloc ?_ _) | (with_reducible refine Kd.C_drewN ?_ _) | (with_reducible refine Kd.C_drew ?_))); (case side2 => exact (Kd.R_reads' HO185.out).2.1); rintro e w' ⟨rfl, ⟨nd, rfl⟩⟩; (try first | exact ⟨rfl, _, World.drewN_drewN _ _ _⟩ | exact ⟨rfl, _, Eq.trans (World.drewN_drewN _ _ _) (congrArg (World.drewN _) (Nat.add_assoc _ _ _))⟩))); try go_wp2_with (first | (go_at_call 12; (with_reducible refine (lighterref01_Same.calls kj3 _ _ t183 _ _ t187 true _ ?side1 ?side2 ?side3 ?side4 A34.out).mono ?_); (case side1 => repeat (first | exact (Kd.R_reads' HO185.out).2.2 | (with_reducible refine Kd.C_alloc ?_ _) | (with_reducible refine Kd.C_drewN ?_ _) | (with_reducible refine Kd.C_drew ?_))); (case side2 => exact (Kd.R_reads' HO185.out).2.1); (case side3 => repeat (first | exact (Kd.R_reads' HO189.out).2.2 | (with_reducible refine Kd.C_alloc ?_ _) | (with_reducible refine Kd.C_drewN ?_ _) | (with_reducible refine Kd.C_drew ?_))); (case side4 => exact (Kd.R_reads' HO189.out).2.1); rintro e w' ⟨rfl, ⟨nd, rfl⟩⟩; (try first | exact ⟨rfl, _, World.drewN_drewN _ _ _⟩ | exact ⟨rfl, _, Eq.trans (World.drewN_drewN _ _ _) (congrArg (World.drewN _) (Nat.add_assoc _ _ _))⟩)) | (go_at_call 14; (with_reducible refine (lighterlaw09_size.calls kj3 _ _ t183 t196 _ ?side1 ?side2 A36.out).mono ?_); (case side1 => repeat (first | exact (Kd.R_reads' HO185.out).2.2 | (with_reducible refine Kd.C_alloc ?_ _) | (with_reducible refine Kd.C_drewN ?_ _) | (with_reducible refine Kd.C_drew ?_))); (case side2 => exact (Kd.R_reads' HO185.out).2.1); rintro e w' ⟨rfl, ⟨nd, rfl⟩⟩; (try first | exact ⟨rfl, _, World.drewN_drewN _ _ _⟩ | exact ⟨rfl, _, Eq.trans (World.drewN_drewN _ _ _) (congrArg (World.drewN _) (Nat.add_assoc _ _ _))⟩))))
                    go_meet
                    case rel => exact ⟨_, (true), (by first | rfl | (simp; done) | (simp [*]; done)), H', ⟨by have := HJ3.out; first | omega | exact Nat.le_refl _⟩, ⟨by (with_reducible repeat (first | apply Kd.R_alloc | apply Kd.R_drewN | apply Kd.R_drew)); exact Kd.R_mono HO193.out (fun _ hk => trivial)⟩, ⟨by (with_reducible repeat (first | refine blk_drewN ?_ _ | refine blk_drew ?_ | refine blk_alloc ?_ _)); exact BK180.out⟩, ⟨by repeat (first | (with_reducible first | exact HB.out | apply below_alloc | apply pw_below_drewN | apply below_drew1 | refine below_set ?_ GE180.out) | exact HB.out)⟩⟩
                · replace c35 := Bool.eq_false_iff.mpr c35
                  subst c35
                  have H1 : (lighterlaw09_RingRound.j1 kj3 t191 true a0_0 a0_1 a0_2) = some r := by rw [if_neg (show ¬ (false = true) by decide)] at H; exact H
                  clear H
                  have H := H1
                  clear H1
                  have H' := Aside0.mk H
                  clear H
                  obtain ⟨Ao45, co45, eo45⟩ := Kd.R_slice HO185.out
                  subst eo45
                  obtain ⟨Ao46, co46, eo46⟩ := Kd.R_slice HO189.out
                  subst eo46
                  go_wp2_with (first | (go_at_call 12; (with_reducible refine (lighterref01_Same.calls kj3 _ _ t183 _ _ t187 false _ ?side1 ?side2 ?side3 ?side4 A34.out).mono ?_); (case side1 => repeat (first | exact (Kd.R_reads' HO185.out).2.2 | (with_reducible refine Kd.C_alloc ?_ _) | (with_reducible refine Kd.C_drewN ?_ _) | (with_reducible refine Kd.C_drew ?_))); (case side2 => exact (Kd.R_reads' HO185.out).2.1); (case side3 => repeat (first | exact (Kd.R_reads' HO189.out).2.2 | (with_reducible refine Kd.C_alloc ?_ _) | (with_reducible refine Kd.C_drewN ?_ _) | (with_reducible refine Kd.C_drew ?_))); (case side4 => exact (Kd.R_reads' HO189.out).2.1); rintro e w' ⟨rfl, ⟨nd, rfl⟩⟩; (try first | exact ⟨rfl, _, World.drewN_drewN _ _ _⟩ | exact ⟨rfl, _, Eq.trans (World.drewN_drewN _ _ _) (congrArg (World.drewN _) (Nat.add_assoc _ _ _))⟩)))
                  repeat (go_quiet (first | (go_at_call 12; (with_reducible refine (lighterref01_Same.calls kj3 _ _ t183 _ _ t187 false _ ?side1 ?side2 ?side3 ?side4 A34.out).mono ?_); (case side1 => repeat (first | exact (Kd.R_reads' HO185.out).2.2 | (with_reducible refine Kd.C_alloc ?_ _) | (with_reducible refine Kd.C_drewN ?_ _) | (with_reducible refine Kd.C_drew ?_))); (case side2 => exact (Kd.R_reads' HO185.out).2.1); (case side3 => repeat (first | exact (Kd.R_reads' HO189.out).2.2 | (with_reducible refine Kd.C_alloc ?_ _) | (with_reducible refine Kd.C_drewN ?_ _) | (with_reducible refine Kd.C_drew ?_))); (case side4 => exact (Kd.R_reads' HO189.out).2.1); rintro e w' ⟨rfl, ⟨nd, rfl⟩⟩; (try first | exact ⟨rfl, _, World.drewN_drewN _ _ _⟩ | exact ⟨rfl, _, Eq.trans (World.drewN_drewN _ _ _) (congrArg (World.drewN _) (Nat.add_assoc _ _ _))⟩))); try go_wp2_with (first | (go_at_call 12; (with_reducible refine (lighterref01_Same.calls kj3 _ _ t183 _ _ t187 false _ ?side1 ?side2 ?side3 ?side4 A34.out).mono ?_); (case side1 => repeat (first | exact (Kd.R_reads' HO185.out).2.2 | (with_reducible refine Kd.C_alloc ?_ _) | (with_reducible refine Kd.C_drewN ?_ _) | (with_reducible refine Kd.C_drew ?_))); (case side2 => exact (Kd.R_reads' HO185.out).2.1); (case side3 => repeat (first | exact (Kd.R_reads' HO189.out).2.2 | (with_reducible refine Kd.C_alloc ?_ _) | (with_reducible refine Kd.C_drewN ?_ _) | (with_reducible refine Kd.C_drew ?_))); (case side4 => exact (Kd.R_reads' HO189.out).2.1); rintro e w' ⟨rfl, ⟨nd, rfl⟩⟩; (try first | exact ⟨rfl, _, World.drewN_drewN _ _ _⟩ | exact ⟨rfl, _, Eq.trans (World.drewN_drewN _ _ _) (congrArg (World.drewN _) (Nat.add_assoc _ _ _))⟩))))
                  go_meet
                  case rel => exact ⟨_, (true), (by first | rfl | (simp; done) | (simp [*]; done)), H', ⟨by have := HJ3.out; first | omega | exact Nat.le_refl _⟩, ⟨by (with_reducible repeat (first | apply Kd.R_alloc | apply Kd.R_drewN | apply Kd.R_drew)); exact Kd.R_mono HO193.out (fun _ hk => trivial)⟩, ⟨by (with_reducible repeat (first | refine blk_drewN ?_ _ | refine blk_drew ?_ | refine blk_alloc ?_ _)); exact BK180.out⟩, ⟨by repeat (first | (with_reducible first | exact HB.out | apply below_alloc | apply pw_below_drewN | apply below_drew1 | refine below_set ?_ GE180.out) | exact HB.out)⟩⟩
              · rw [if_neg c33] at H
                have c33b0 : (t194 == 0) = false := beq_eq_false_iff_ne.mpr c33
                have c33b1 : (t194 != 0) = true := bne_iff_ne.mpr c33
                have H' := Aside0.mk H
                clear H
                go_wp2
                repeat (go_quiet (fail); try go_wp2)
                go_meet
                case rel => exact ⟨_, (true), (by first | rfl | (simp; done) | (simp [*]; done)), H', ⟨by have := HJ3.out; first | omega | exact Nat.le_refl _⟩, ⟨by (with_reducible repeat (first | apply Kd.R_alloc | apply Kd.R_drewN | apply Kd.R_drew)); exact Kd.R_mono HO193.out (fun _ hk => trivial)⟩, ⟨by (with_reducible repeat (first | refine blk_drewN ?_ _ | refine blk_drew ?_ | refine blk_alloc ?_ _)); exact BK180.out⟩, ⟨by repeat (first | (with_reducible first | exact HB.out | apply below_alloc | apply pw_below_drewN | apply below_drew1 | refine below_set ?_ GE180.out) | exact HB.out)⟩⟩
            · rw [if_neg c32] at H
              have c32b0 : (t190 == 0) = false := beq_eq_false_iff_ne.mpr c32
              have c32b1 : (t190 != 0) = true := bne_iff_ne.mpr c32
              have H' := Aside0.mk H
              clear H
              go_wp2
              repeat (go_quiet (fail); try go_wp2)
              go_meet
              case rel => exact ⟨_, (true), (by first | rfl | (simp; done) | (simp [*]; done)), H', ⟨by have := HJ3.out; first | omega | exact Nat.le_refl _⟩, ⟨by (with_reducible repeat (first | apply Kd.R_alloc | apply Kd.R_drewN | apply Kd.R_drew)); exact Kd.R_mono HO193.out (fun _ hk => trivial)⟩, ⟨by (with_reducible repeat (first | refine blk_drewN ?_ _ | refine blk_drew ?_ | refine blk_alloc ?_ _)); exact BK180.out⟩, ⟨by repeat (first | (with_reducible first | exact HB.out | apply below_alloc | apply pw_below_drewN | apply below_drew1 | refine below_set ?_ GE180.out) | exact HB.out)⟩⟩
          · rw [if_neg c31] at H
            have c31b0 : (t186 == 0) = false := beq_eq_false_iff_ne.mpr c31
            have c31b1 : (t186 != 0) = true := bne_iff_ne.mpr c31
            (first | rw [c31b0] | (simp only [i64_w, i32_w]; rw [c31b0]) | skip)
            have H' := Aside0.mk H
            clear H
            go_wp2
            repeat (go_quiet (fail); try go_wp2)
            go_meet
            case rel => exact ⟨_, (true), (by first | rfl | (simp; done) | (simp [*]; done)), H', ⟨by have := HJ3.out; first | omega | exact Nat.le_refl _⟩, ⟨by (with_reducible repeat (first | apply Kd.R_alloc | apply Kd.R_drewN | apply Kd.R_drew)); exact Kd.R_mono HO193.out (fun _ hk => trivial)⟩, ⟨by (with_reducible repeat (first | refine blk_drewN ?_ _ | refine blk_drew ?_ | refine blk_alloc ?_ _)); exact BK180.out⟩, ⟨by repeat (first | (with_reducible first | exact HB.out | apply below_alloc | apply pw_below_drewN | apply below_drew1 | refine below_set ?_ GE180.out) | exact HB.out)⟩⟩
        case rest =>
          clear HC24
          try clear c1
          try clear p2
          try clear c3
          try clear c5
          try clear p6
          try clear c7
          try clear c8
          try clear c8b0
          try clear c10
          try clear c10b0
          try clear c12
          try clear c12b0
          try clear c14
          try clear c14b0
          try clear c18
          try clear c31
          try clear c31b0
          try clear c31b1
          try clear c32
          try clear c32b0
          try clear c32b1
          try clear c33
          try clear c33b0
          try clear c33b1
          try clear c35
          try clear c37
          try clear c37b0
          try clear c37b1
          try clear hcz11_0
          try clear hcz11_1
          try clear hcz11_2
          try clear hcz13_0
          try clear hcz13_1
          try clear hcz13_2
          try clear hcz15_0
          try clear hcz15_1
          try clear hcz15_2
          try clear hcz16_0
          try clear hcz16_1
          try clear hcz16_2
          try clear hcz17_0
          try clear hcz17_1
          try clear hcz17_2
          try clear hcz25_0
          try clear hcz25_1
          try clear hcz25_2
          try clear hcz27_0
          try clear hcz27_1
          try clear hcz27_2
          try clear hcz29_0
          try clear hcz29_1
          try clear hcz29_2
          try clear hcz42_0
          try clear hcz42_1
          try clear hcz42_2
          try clear hcz9_0
          try clear hcz9_1
          try clear hcz9_2
          try clear hfz11_0
          try clear hfz11_1
          try clear hfz11_2
          try clear hfz13_0
          try clear hfz13_1
          try clear hfz13_2
          try clear hfz15_0
          try clear hfz15_1
          try clear hfz15_2
          try clear hfz16_0
          try clear hfz16_1
          try clear hfz16_2
          try clear hfz17_0
          try clear hfz17_1
          try clear hfz17_2
          try clear hfz25_0
          try clear hfz25_1
          try clear hfz25_2
          try clear hfz27_0
          try clear hfz27_1
          try clear hfz27_2
          try clear hfz29_0
          try clear hfz29_1
          try clear hfz29_2
          try clear hfz42_0
          try clear hfz42_1
          try clear hfz42_2
          try clear hfz9_0
          try clear hfz9_1
          try clear hfz9_2
          try clear p2
          obtain ⟨kq, x99_23, rfl, HA, HJ23, HO_11, BK180, HB⟩ := hcut
          cases kq with
          | zero => exact absurd HA.out (by simp [lighterlaw09_RingRound.j1])
          | succ kj23 =>
            have H := HA.out
            clear HA
            simp only [lighterlaw09_RingRound.j1] at H
            by_cases c47 : x99_23 = true
            · subst c47
              have H1 : (some false) = some r := by rw [if_pos rfl] at H; exact H
              clear H
              have H := H1
              clear H1
              obtain rfl := Option.some.inj H
              go_wp2
              repeat (go_quiet (fail); try go_wp2)
              go_ret
              exact ⟨by first | rfl | (simp [errW_none, errW_some] <;> rfl) | (simp [*, errW_none, errW_some] <;> rfl), by repeat (first | (with_reducible first | exact HB.out | apply below_alloc | apply pw_below_drewN | apply below_drew1 | refine below_set ?_ GE180.out) | exact HB.out)⟩
            · replace c47 := Bool.eq_false_iff.mpr c47
              subst c47
              have H1 : (lighterlaw09_RingRound.l0 kj23 t191 0 a0_0 a0_1 a0_2) = some r := by rw [if_neg (show ¬ (false = true) by decide)] at H; exact H
              clear H
              have H := H1
              clear H1
              have H' := Aside0.mk H
              clear H
              go_wp2
              repeat (go_quiet (fail); try go_wp2)
              go_loopg [13] kj23 (fun kq v13 w' => ∃ (x13_3 : Int), v13 = .int .i64 x13_3 ∧ Aside0 (lighterlaw09_RingRound.l0 kq t191 x13_3 a0_0 a0_1 a0_2 = some r) ∧ Aside0 (kq ≤ kj23) ∧ Aside0 (Kd.R k47 47 w' w.heap.size (fun _ => True) v192 t191) ∧ Aside0 (w'.heap[gb180]? = some (.cells #[.int .i64 a0_0, .int .i64 a0_1, .int .i64 a0_2] 23 (0, 0))) ∧ Aside0 (Below w.heap.size w w'))
              case atStart => exact ⟨(0), (by first | rfl | (simp; done) | (simp [*]; done)), H', ⟨Nat.le_refl _⟩, ⟨by (with_reducible repeat (first | apply Kd.R_alloc | apply Kd.R_drewN | apply Kd.R_drew)); exact HO_11.out⟩, ⟨by (with_reducible repeat (first | refine blk_drewN ?_ _ | refine blk_drew ?_ | refine blk_alloc ?_ _)); exact BK180.out⟩, ⟨by repeat (first | (with_reducible first | exact HB.out | apply below_alloc | apply pw_below_drewN | apply below_drew1 | refine below_set ?_ GE180.out) | exact HB.out)⟩⟩
              case round =>
                clear H'
                try clear c1
                try clear p2
                try clear c3
                try clear c4
                try clear c5
                try clear p6
                try clear c7
                try clear c8
                try clear c8b0
                try clear c10
                try clear c10b0
                try clear c12
                try clear c12b0
                try clear c14
                try clear c14b0
                try clear c18
                try clear c31
                try clear c31b0
                try clear c31b1
                try clear c32
                try clear c32b0
                try clear c32b1
                try clear c33
                try clear c33b0
                try clear c33b1
                try clear c35
                try clear c37
                try clear c37b0
                try clear c37b1
                try clear c47
                try clear hcz11_0
                try clear hcz11_1
                try clear hcz11_2
                try clear hcz13_0
                try clear hcz13_1
                try clear hcz13_2
                try clear hcz15_0
                try clear hcz15_1
                try clear hcz15_2
                try clear hcz16_0
                try clear hcz16_1
                try clear hcz16_2
                try clear hcz17_0
                try clear hcz17_1
                try clear hcz17_2
                try clear hcz25_0
                try clear hcz25_1
                try clear hcz25_2
                try clear hcz27_0
                try clear hcz27_1
                try clear hcz27_2
                try clear hcz29_0
                try clear hcz29_1
                try clear hcz29_2
                try clear hcz42_0
                try clear hcz42_1
                try clear hcz42_2
                try clear hcz9_0
                try clear hcz9_1
                try clear hcz9_2
                try clear hfz11_0
                try clear hfz11_1
                try clear hfz11_2
                try clear hfz13_0
                try clear hfz13_1
                try clear hfz13_2
                try clear hfz15_0
                try clear hfz15_1
                try clear hfz15_2
                try clear hfz16_0
                try clear hfz16_1
                try clear hfz16_2
                try clear hfz17_0
                try clear hfz17_1
                try clear hfz17_2
                try clear hfz25_0
                try clear hfz25_1
                try clear hfz25_2
                try clear hfz27_0
                try clear hfz27_1
                try clear hfz27_2
                try clear hfz29_0
                try clear hfz29_1
                try clear hfz29_2
                try clear hfz42_0
                try clear hfz42_1
                try clear hfz42_2
                try clear hfz9_0
                try clear hfz9_1
                try clear hfz9_2
                try clear p2
                try clear p6
                obtain ⟨x13_3, rfl, HA, HK3, HO_11, BK180, HB⟩ := hrel
                cases gk with
                | zero => exact absurd HA.out (by simp [lighterlaw09_RingRound.l0])
                | succ k3 =>
                  have H := HA.out
                  clear HA
                  simp only [lighterlaw09_RingRound.l0] at H
                  by_cases c48 : x13_3 < a0_0
                  · rw [if_pos c48] at H
                    have c48b0 : decide (x13_3 < a0_0) = true := decide_eq_true c48
                    clear c48
                    replace H := Option.bind_eq_some_iff.mp H
                    obtain ⟨t198, A490, H⟩ := H
                    replace H : (if t198 = true then (lighterlaw09_RingRound.l0 k3 t191 (wrap64 (x13_3 + 1)) a0_0 a0_1 a0_2) else (some false)) = some r := H
                    have A49 := Aside0.mk A490
                    clear A490
                    by_cases c50 : t198 = true
                    · subst c50
                      have H1 : (lighterlaw09_RingRound.l0 k3 t191 (wrap64 (x13_3 + 1)) a0_0 a0_1 a0_2) = some r := by rw [if_pos rfl] at H; exact H
                      clear H
                      have H := H1
                      clear H1
                      have H' := Aside0.mk H
                      clear H
                      have hcz51_0 : wr.cell? ⟨gb180, 0, none⟩ = some (.int .i64 a0_0) := (blk_cell BK180.out 0).trans rfl
                      have hcz51_1 : wr.cell? ⟨gb180, 1, none⟩ = some (.int .i64 a0_1) := (blk_cell BK180.out 1).trans rfl
                      have hcz51_2 : wr.cell? ⟨gb180, 2, none⟩ = some (.int .i64 a0_2) := (blk_cell BK180.out 2).trans rfl
                      have hfz51_0 := blk_frozen BK180.out 0
                      have hfz51_1 := blk_frozen BK180.out 1
                      have hfz51_2 := blk_frozen BK180.out 2
                      obtain ⟨Ao52, co52, eo52⟩ := Kd.R_slice HO_11.out
                      subst eo52
                      go_wp2_with (first | (go_at_call 17; (with_reducible refine (lighterref01_Within.calls k3 _ _ t191 x13_3 true _ ?side1 ?side2 A49.out).mono ?_); (case side1 => repeat (first | exact (Kd.R_reads' HO_11.out).2.2 | (with_reducible refine Kd.C_alloc ?_ _) | (with_reducible refine Kd.C_drewN ?_ _) | (with_reducible refine Kd.C_drew ?_))); (case side2 => exact (Kd.R_reads' HO_11.out).2.1); rintro e w' ⟨rfl, ⟨nd, rfl⟩⟩; (try first | exact ⟨rfl, _, World.drewN_drewN _ _ _⟩ | exact ⟨rfl, _, Eq.trans (World.drewN_drewN _ _ _) (congrArg (World.drewN _) (Nat.add_assoc _ _ _))⟩)))
                      repeat (go_quiet (first | (go_at_call 17; (with_reducible refine (lighterref01_Within.calls k3 _ _ t191 x13_3 true _ ?side1 ?side2 A49.out).mono ?_); (case side1 => repeat (first | exact (Kd.R_reads' HO_11.out).2.2 | (with_reducible refine Kd.C_alloc ?_ _) | (with_reducible refine Kd.C_drewN ?_ _) | (with_reducible refine Kd.C_drew ?_))); (case side2 => exact (Kd.R_reads' HO_11.out).2.1); rintro e w' ⟨rfl, ⟨nd, rfl⟩⟩; (try first | exact ⟨rfl, _, World.drewN_drewN _ _ _⟩ | exact ⟨rfl, _, Eq.trans (World.drewN_drewN _ _ _) (congrArg (World.drewN _) (Nat.add_assoc _ _ _))⟩))); try go_wp2_with (first | (go_at_call 17; (with_reducible refine (lighterref01_Within.calls k3 _ _ t191 x13_3 true _ ?side1 ?side2 A49.out).mono ?_); (case side1 => repeat (first | exact (Kd.R_reads' HO_11.out).2.2 | (with_reducible refine Kd.C_alloc ?_ _) | (with_reducible refine Kd.C_drewN ?_ _) | (with_reducible refine Kd.C_drew ?_))); (case side2 => exact (Kd.R_reads' HO_11.out).2.1); rintro e w' ⟨rfl, ⟨nd, rfl⟩⟩; (try first | exact ⟨rfl, _, World.drewN_drewN _ _ _⟩ | exact ⟨rfl, _, Eq.trans (World.drewN_drewN _ _ _) (congrArg (World.drewN _) (Nat.add_assoc _ _ _))⟩))))
                      go_roundg k3
                      case measure => have := HJ3.out; have := HJ23.out; have := HK3.out; omega
                      case rel => exact ⟨(wrap64 (x13_3 + 1)), (by first | rfl | (simp; done) | (simp [*]; done)), H', ⟨by have := HJ3.out; have := HJ23.out; have := HK3.out; omega⟩, ⟨by (with_reducible repeat (first | apply Kd.R_alloc | apply Kd.R_drewN | apply Kd.R_drew)); exact HO_11.out⟩, ⟨by (with_reducible repeat (first | refine blk_drewN ?_ _ | refine blk_drew ?_ | refine blk_alloc ?_ _)); exact BK180.out⟩, ⟨by repeat (first | (with_reducible first | exact HB.out | apply below_alloc | apply pw_below_drewN | apply below_drew1 | refine below_set ?_ GE180.out) | exact HB.out)⟩⟩
                    · replace c50 := Bool.eq_false_iff.mpr c50
                      subst c50
                      have H1 : (some false) = some r := by rw [if_neg (show ¬ (false = true) by decide)] at H; exact H
                      clear H
                      have H := H1
                      clear H1
                      obtain rfl := Option.some.inj H
                      have hcz53_0 : wr.cell? ⟨gb180, 0, none⟩ = some (.int .i64 a0_0) := (blk_cell BK180.out 0).trans rfl
                      have hcz53_1 : wr.cell? ⟨gb180, 1, none⟩ = some (.int .i64 a0_1) := (blk_cell BK180.out 1).trans rfl
                      have hcz53_2 : wr.cell? ⟨gb180, 2, none⟩ = some (.int .i64 a0_2) := (blk_cell BK180.out 2).trans rfl
                      have hfz53_0 := blk_frozen BK180.out 0
                      have hfz53_1 := blk_frozen BK180.out 1
                      have hfz53_2 := blk_frozen BK180.out 2
                      obtain ⟨Ao54, co54, eo54⟩ := Kd.R_slice HO_11.out
                      subst eo54
                      go_wp2_with (first | (go_at_call 17; (with_reducible refine (lighterref01_Within.calls k3 _ _ t191 x13_3 false _ ?side1 ?side2 A49.out).mono ?_); (case side1 => repeat (first | exact (Kd.R_reads' HO_11.out).2.2 | (with_reducible refine Kd.C_alloc ?_ _) | (with_reducible refine Kd.C_drewN ?_ _) | (with_reducible refine Kd.C_drew ?_))); (case side2 => exact (Kd.R_reads' HO_11.out).2.1); rintro e w' ⟨rfl, ⟨nd, rfl⟩⟩; (try first | exact ⟨rfl, _, World.drewN_drewN _ _ _⟩ | exact ⟨rfl, _, Eq.trans (World.drewN_drewN _ _ _) (congrArg (World.drewN _) (Nat.add_assoc _ _ _))⟩)))
                      repeat (go_quiet (first | (go_at_call 17; (with_reducible refine (lighterref01_Within.calls k3 _ _ t191 x13_3 false _ ?side1 ?side2 A49.out).mono ?_); (case side1 => repeat (first | exact (Kd.R_reads' HO_11.out).2.2 | (with_reducible refine Kd.C_alloc ?_ _) | (with_reducible refine Kd.C_drewN ?_ _) | (with_reducible refine Kd.C_drew ?_))); (case side2 => exact (Kd.R_reads' HO_11.out).2.1); rintro e w' ⟨rfl, ⟨nd, rfl⟩⟩; (try first | exact ⟨rfl, _, World.drewN_drewN _ _ _⟩ | exact ⟨rfl, _, Eq.trans (World.drewN_drewN _ _ _) (congrArg (World.drewN _) (Nat.add_assoc _ _ _))⟩))); try go_wp2_with (first | (go_at_call 17; (with_reducible refine (lighterref01_Within.calls k3 _ _ t191 x13_3 false _ ?side1 ?side2 A49.out).mono ?_); (case side1 => repeat (first | exact (Kd.R_reads' HO_11.out).2.2 | (with_reducible refine Kd.C_alloc ?_ _) | (with_reducible refine Kd.C_drewN ?_ _) | (with_reducible refine Kd.C_drew ?_))); (case side2 => exact (Kd.R_reads' HO_11.out).2.1); rintro e w' ⟨rfl, ⟨nd, rfl⟩⟩; (try first | exact ⟨rfl, _, World.drewN_drewN _ _ _⟩ | exact ⟨rfl, _, Eq.trans (World.drewN_drewN _ _ _) (congrArg (World.drewN _) (Nat.add_assoc _ _ _))⟩))))
                      go_ret
                      exact ⟨by first | rfl | (simp [errW_none, errW_some] <;> rfl) | (simp [*, errW_none, errW_some] <;> rfl), by repeat (first | (with_reducible first | exact HB.out | apply below_alloc | apply pw_below_drewN | apply below_drew1 | refine below_set ?_ GE180.out) | exact HB.out)⟩
                  · rw [if_neg c48] at H
                    have c48b0 : decide (x13_3 < a0_0) = false := decide_eq_false c48
                    clear c48
                    replace H := Option.bind_eq_some_iff.mp H
                    obtain ⟨t199, A550, H⟩ := H
                    replace H : (some t199) = some r := H
                    have A55 := Aside0.mk A550
                    clear A550
                    obtain rfl := Option.some.inj H
                    have hcz56_0 : wr.cell? ⟨gb180, 0, none⟩ = some (.int .i64 a0_0) := (blk_cell BK180.out 0).trans rfl
                    have hcz56_1 : wr.cell? ⟨gb180, 1, none⟩ = some (.int .i64 a0_1) := (blk_cell BK180.out 1).trans rfl
                    have hcz56_2 : wr.cell? ⟨gb180, 2, none⟩ = some (.int .i64 a0_2) := (blk_cell BK180.out 2).trans rfl
                    have hfz56_0 := blk_frozen BK180.out 0
                    have hfz56_1 := blk_frozen BK180.out 1
                    have hfz56_2 := blk_frozen BK180.out 2
                    go_wp2_with (first | (go_at_call 11; (with_reducible refine (lighterlaw09_awake.calls k3  t199 _ A55.out).mono ?_); rintro e w57 ⟨rfl, hb⟩; have n0_ := Aside0.mk (Kd.R_below (by (with_reducible repeat (first | apply Kd.R_alloc | apply Kd.R_drewN | apply Kd.R_drew)); exact HO_11.out) hb); have n1_ := Aside0.mk (blk_below (g := gb180) (o := .cells #[.int .i64 a0_0, .int .i64 a0_1, .int .i64 a0_2] 23 (0, 0)) (by (with_reducible repeat (first | refine blk_drewN ?_ _ | refine blk_drew ?_ | refine blk_alloc ?_ _)); exact BK180.out) hb); have n2_ := Aside0.mk (below_step (by repeat (first | (with_reducible first | exact HB.out | apply below_alloc | apply pw_below_drewN | apply below_drew1 | refine below_set ?_ GE180.out) | exact HB.out)) hb); clear HO_11; clear BK180; clear HB; have HO_11 := n0_; have BK180 := n1_; have HB := n2_; clear n0_ n1_ n2_; (try clear hb); (try clear hb2); (try clear hk); (try clear hi)))
                    repeat (go_quiet (first | (go_at_call 11; (with_reducible refine (lighterlaw09_awake.calls k3  t199 _ A55.out).mono ?_); rintro e w57 ⟨rfl, hb⟩; have n0_ := Aside0.mk (Kd.R_below (by (with_reducible repeat (first | apply Kd.R_alloc | apply Kd.R_drewN | apply Kd.R_drew)); exact HO_11.out) hb); have n1_ := Aside0.mk (blk_below (g := gb180) (o := .cells #[.int .i64 a0_0, .int .i64 a0_1, .int .i64 a0_2] 23 (0, 0)) (by (with_reducible repeat (first | refine blk_drewN ?_ _ | refine blk_drew ?_ | refine blk_alloc ?_ _)); exact BK180.out) hb); have n2_ := Aside0.mk (below_step (by repeat (first | (with_reducible first | exact HB.out | apply below_alloc | apply pw_below_drewN | apply below_drew1 | refine below_set ?_ GE180.out) | exact HB.out)) hb); clear HO_11; clear BK180; clear HB; have HO_11 := n0_; have BK180 := n1_; have HB := n2_; clear n0_ n1_ n2_; (try clear hb); (try clear hb2); (try clear hk); (try clear hi))); try go_wp2_with (first | (go_at_call 11; (with_reducible refine (lighterlaw09_awake.calls k3  t199 _ A55.out).mono ?_); rintro e w57 ⟨rfl, hb⟩; have n0_ := Aside0.mk (Kd.R_below (by (with_reducible repeat (first | apply Kd.R_alloc | apply Kd.R_drewN | apply Kd.R_drew)); exact HO_11.out) hb); have n1_ := Aside0.mk (blk_below (g := gb180) (o := .cells #[.int .i64 a0_0, .int .i64 a0_1, .int .i64 a0_2] 23 (0, 0)) (by (with_reducible repeat (first | refine blk_drewN ?_ _ | refine blk_drew ?_ | refine blk_alloc ?_ _)); exact BK180.out) hb); have n2_ := Aside0.mk (below_step (by repeat (first | (with_reducible first | exact HB.out | apply below_alloc | apply pw_below_drewN | apply below_drew1 | refine below_set ?_ GE180.out) | exact HB.out)) hb); clear HO_11; clear BK180; clear HB; have HO_11 := n0_; have BK180 := n1_; have HB := n2_; clear n0_ n1_ n2_; (try clear hb); (try clear hb2); (try clear hk); (try clear hi))))
                    go_ret
                    exact ⟨by first | rfl | (simp [errW_none, errW_some] <;> rfl) | (simp [*, errW_none, errW_some] <;> rfl), by repeat (first | (with_reducible first | exact HB.out | apply below_alloc | apply pw_below_drewN | apply below_drew1 | refine below_set ?_ GE180.out) | exact HB.out)⟩

end Go.Proofs.Ytkbohbelmgmlnaa.PRingRound
