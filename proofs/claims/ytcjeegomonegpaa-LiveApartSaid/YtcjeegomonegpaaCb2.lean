/- YtcjeegomonegpaaCb2: what this claim rests on. Words and contracts are those of the kit's print (print.sh wrote them, those that nothing here reaches are left out); all else is own work. Conditions: what each theorem says. -/
import Derived.Test.YtcjeegomonegpaaCb1
import Derived.Maps.Range
import Derived.Maps.Ext
import Derived.Shelf.Abstract
import Derived.Shelf.SlMaps.Clone
import Derived.RangeFuncNested
import Derived.RangeFuncBound
import Derived.RangeFuncCalls
import Derived.RangeFuncLeaves
import Derived.RangeFuncBox
import Derived.Shelf.AbstractIn
import Derived.OwnWalkIn
import Derived.TacticsInMore
import Derived.LoopNIn
import Derived.LoopIn
import Derived.RegionIn
import Derived.Sort.MapsRangeIn
import Derived.Maps.AppendAt
import Derived.Maps.RangeWalk
import Derived.Shelf.SlSortCmp.InsertionK
import Derived.Laws.Cover2
import Derived.Laws.FloatArith
import Derived.Test.YtcjeegomonegpaaProg
import Derived.Shelf.SlLaysF0
import Derived.Shelf.SlSortCmp.WholeK
namespace Go.Proofs.Ytcjeegomonegpaa.PLivePlays
open Go.RowKit Go.Proofs.YtcjeegomonegpaaW.PrintWords Go.Proofs.YtcjeegomonegpaaW.PrintLast Go.Proofs.YtcjeegomonegpaaW.PrintMore
attribute [local go_sem] max2_int min2_int max_two min_two max_three min_three max_four min_four   -- for this text's walks alone
set_option linter.unusedVariables false
set_option linter.unusedSimpArgs false
def live_Row_may.f (a0_0 : Int) (a0_1 : Int) (a0_2 : Int) : Option (Bool) := if a0_0 ≥ 1 then (if a0_0 < 1099511627776 then (if a0_1 ≥ 0 then (if a0_1 ≤ 65536 then (if a0_2 ≥ 0 then (some (decide (a0_2 ≤ a0_1))) else (some false)) else (some false)) else (some false)) else (some false)) else (some false)
set_option maxHeartbeats 8000000 in
set_option maxRecDepth 100000 in
theorem live_Row_may.calls (a0_0 : Int) (a0_1 : Int) (a0_2 : Int) (r : Bool) (w : World) (h : live_Row_may.f a0_0 a0_1 a0_2 = some r) :
    Calls Try.prog 49 #[.agg #[.int .i64 a0_0, .int .i64 a0_1, .int .i64 a0_2]] w fun e w' => e = .returned (.bool r) ∧ Below w.heap.size w w' := by
  have hu23 := Try.underlying23
  have HB := Aside0.mk (Below.refl w.heap.size w)
  have H : (if a0_0 ≥ 1 then (if a0_0 < 1099511627776 then (if a0_1 ≥ 0 then (if a0_1 ≤ 65536 then (if a0_2 ≥ 0 then (some (decide (a0_2 ≤ a0_1))) else (some false)) else (some false)) else (some false)) else (some false)) else (some false)) = some r := h
  clear h
  by_cases c2 : a0_0 ≥ 1
  · rw [if_pos c2] at H
    have c2b0 : decide (1 ≤ a0_0) = true := decide_eq_true c2
    clear c2
    by_cases c3 : a0_0 < 1099511627776
    · rw [if_pos c3] at H
      have c3b0 : decide (a0_0 < 1099511627776) = true := decide_eq_true c3
      clear c3
      by_cases c4 : a0_1 ≥ 0
      · rw [if_pos c4] at H
        have c4b0 : decide (0 ≤ a0_1) = true := decide_eq_true c4
        clear c4
        by_cases c5 : a0_1 ≤ 65536
        · rw [if_pos c5] at H
          have c5b0 : decide (a0_1 ≤ 65536) = true := decide_eq_true c5
          clear c5
          by_cases c6 : a0_2 ≥ 0
          · rw [if_pos c6] at H
            have c6b0 : decide (0 ≤ a0_2) = true := decide_eq_true c6
            clear c6
            obtain rfl := Option.some.inj H
            go_enter Try.func49, Try.ntmps49
            go_wp2_with (first | ((with_reducible refine gate_dst (N := 1) rfl ?_); refine box_event ?hg (N := 1) ?hd (cs := #[.int .i64 a0_0, .int .i64 a0_1, .int .i64 a0_2]) (t := 23) ?hr ?_; (case hd => rfl); (case hg => rfl); (case hr => first | (go_simp; done) | (go_simp; rfl)); intro gb129 hg w7 hbox hb; have n0_ := Aside0.mk (below_step (by repeat (first | (with_reducible first | exact HB.out | apply below_alloc | apply pw_below_drewN | apply below_drew1) | exact HB.out)) hb); have n1_ := Aside0.mk (hbox); have n2_ := Aside0.mk ((by rw [hg]; exact (below_size (by repeat (first | (with_reducible first | exact HB.out | apply below_alloc | apply pw_below_drewN | apply below_drew1) | exact HB.out))) : w.heap.size ≤ gb129)); have n3_ := Aside0.mk ((by rw [hg]; exact (below_size (by repeat (first | (with_reducible first | exact HB.out | apply below_alloc | apply pw_below_drewN | apply below_drew1) | exact HB.out))) : w.heap.size ≤ gb129)); clear HB; have HB := n0_; have BK129 := n1_; have GW129 := n2_; have GE129 := n3_; clear n0_ n1_ n2_ n3_; clear hb hbox hg; have hcz8_0 : w7.cell? ⟨gb129, 0, none⟩ = some (.int .i64 a0_0) := (blk_cell BK129.out 0).trans rfl; have hcz8_1 : w7.cell? ⟨gb129, 1, none⟩ = some (.int .i64 a0_1) := (blk_cell BK129.out 1).trans rfl; have hcz8_2 : w7.cell? ⟨gb129, 2, none⟩ = some (.int .i64 a0_2) := (blk_cell BK129.out 2).trans rfl; have hfz8_0 := blk_frozen BK129.out 0; have hfz8_1 := blk_frozen BK129.out 1; have hfz8_2 := blk_frozen BK129.out 2))
            go_ret
            exact ⟨by first | rfl | (simp [errW_none, errW_some] <;> rfl) | (simp [*, errW_none, errW_some] <;> rfl), by repeat (first | (with_reducible first | exact HB.out | apply below_alloc | apply pw_below_drewN | apply below_drew1 | refine below_set ?_ GE129.out) | exact HB.out)⟩
          · rw [if_neg c6] at H
            have c6b0 : decide (0 ≤ a0_2) = false := decide_eq_false c6
            clear c6
            obtain rfl := Option.some.inj H
            go_enter Try.func49, Try.ntmps49
            go_wp2_with (first | ((with_reducible refine gate_dst (N := 1) rfl ?_); refine box_event ?hg (N := 1) ?hd (cs := #[.int .i64 a0_0, .int .i64 a0_1, .int .i64 a0_2]) (t := 23) ?hr ?_; (case hd => rfl); (case hg => rfl); (case hr => first | (go_simp; done) | (go_simp; rfl)); intro gb129 hg w9 hbox hb; have n0_ := Aside0.mk (below_step (by repeat (first | (with_reducible first | exact HB.out | apply below_alloc | apply pw_below_drewN | apply below_drew1) | exact HB.out)) hb); have n1_ := Aside0.mk (hbox); have n2_ := Aside0.mk ((by rw [hg]; exact (below_size (by repeat (first | (with_reducible first | exact HB.out | apply below_alloc | apply pw_below_drewN | apply below_drew1) | exact HB.out))) : w.heap.size ≤ gb129)); have n3_ := Aside0.mk ((by rw [hg]; exact (below_size (by repeat (first | (with_reducible first | exact HB.out | apply below_alloc | apply pw_below_drewN | apply below_drew1) | exact HB.out))) : w.heap.size ≤ gb129)); clear HB; have HB := n0_; have BK129 := n1_; have GW129 := n2_; have GE129 := n3_; clear n0_ n1_ n2_ n3_; clear hb hbox hg; have hcz10_0 : w9.cell? ⟨gb129, 0, none⟩ = some (.int .i64 a0_0) := (blk_cell BK129.out 0).trans rfl; have hcz10_1 : w9.cell? ⟨gb129, 1, none⟩ = some (.int .i64 a0_1) := (blk_cell BK129.out 1).trans rfl; have hcz10_2 : w9.cell? ⟨gb129, 2, none⟩ = some (.int .i64 a0_2) := (blk_cell BK129.out 2).trans rfl; have hfz10_0 := blk_frozen BK129.out 0; have hfz10_1 := blk_frozen BK129.out 1; have hfz10_2 := blk_frozen BK129.out 2))
            go_ret
            exact ⟨by first | rfl | (simp [errW_none, errW_some] <;> rfl) | (simp [*, errW_none, errW_some] <;> rfl), by repeat (first | (with_reducible first | exact HB.out | apply below_alloc | apply pw_below_drewN | apply below_drew1 | refine below_set ?_ GE129.out) | exact HB.out)⟩
        · rw [if_neg c5] at H
          have c5b0 : decide (a0_1 ≤ 65536) = false := decide_eq_false c5
          clear c5
          obtain rfl := Option.some.inj H
          go_enter Try.func49, Try.ntmps49
          go_wp2_with (first | ((with_reducible refine gate_dst (N := 1) rfl ?_); refine box_event ?hg (N := 1) ?hd (cs := #[.int .i64 a0_0, .int .i64 a0_1, .int .i64 a0_2]) (t := 23) ?hr ?_; (case hd => rfl); (case hg => rfl); (case hr => first | (go_simp; done) | (go_simp; rfl)); intro gb129 hg w11 hbox hb; have n0_ := Aside0.mk (below_step (by repeat (first | (with_reducible first | exact HB.out | apply below_alloc | apply pw_below_drewN | apply below_drew1) | exact HB.out)) hb); have n1_ := Aside0.mk (hbox); have n2_ := Aside0.mk ((by rw [hg]; exact (below_size (by repeat (first | (with_reducible first | exact HB.out | apply below_alloc | apply pw_below_drewN | apply below_drew1) | exact HB.out))) : w.heap.size ≤ gb129)); have n3_ := Aside0.mk ((by rw [hg]; exact (below_size (by repeat (first | (with_reducible first | exact HB.out | apply below_alloc | apply pw_below_drewN | apply below_drew1) | exact HB.out))) : w.heap.size ≤ gb129)); clear HB; have HB := n0_; have BK129 := n1_; have GW129 := n2_; have GE129 := n3_; clear n0_ n1_ n2_ n3_; clear hb hbox hg; have hcz12_0 : w11.cell? ⟨gb129, 0, none⟩ = some (.int .i64 a0_0) := (blk_cell BK129.out 0).trans rfl; have hcz12_1 : w11.cell? ⟨gb129, 1, none⟩ = some (.int .i64 a0_1) := (blk_cell BK129.out 1).trans rfl; have hcz12_2 : w11.cell? ⟨gb129, 2, none⟩ = some (.int .i64 a0_2) := (blk_cell BK129.out 2).trans rfl; have hfz12_0 := blk_frozen BK129.out 0; have hfz12_1 := blk_frozen BK129.out 1; have hfz12_2 := blk_frozen BK129.out 2))
          go_ret
          exact ⟨by first | rfl | (simp [errW_none, errW_some] <;> rfl) | (simp [*, errW_none, errW_some] <;> rfl), by repeat (first | (with_reducible first | exact HB.out | apply below_alloc | apply pw_below_drewN | apply below_drew1 | refine below_set ?_ GE129.out) | exact HB.out)⟩
      · rw [if_neg c4] at H
        have c4b0 : decide (0 ≤ a0_1) = false := decide_eq_false c4
        clear c4
        obtain rfl := Option.some.inj H
        go_enter Try.func49, Try.ntmps49
        go_wp2_with (first | ((with_reducible refine gate_dst (N := 1) rfl ?_); refine box_event ?hg (N := 1) ?hd (cs := #[.int .i64 a0_0, .int .i64 a0_1, .int .i64 a0_2]) (t := 23) ?hr ?_; (case hd => rfl); (case hg => rfl); (case hr => first | (go_simp; done) | (go_simp; rfl)); intro gb129 hg w13 hbox hb; have n0_ := Aside0.mk (below_step (by repeat (first | (with_reducible first | exact HB.out | apply below_alloc | apply pw_below_drewN | apply below_drew1) | exact HB.out)) hb); have n1_ := Aside0.mk (hbox); have n2_ := Aside0.mk ((by rw [hg]; exact (below_size (by repeat (first | (with_reducible first | exact HB.out | apply below_alloc | apply pw_below_drewN | apply below_drew1) | exact HB.out))) : w.heap.size ≤ gb129)); have n3_ := Aside0.mk ((by rw [hg]; exact (below_size (by repeat (first | (with_reducible first | exact HB.out | apply below_alloc | apply pw_below_drewN | apply below_drew1) | exact HB.out))) : w.heap.size ≤ gb129)); clear HB; have HB := n0_; have BK129 := n1_; have GW129 := n2_; have GE129 := n3_; clear n0_ n1_ n2_ n3_; clear hb hbox hg; have hcz14_0 : w13.cell? ⟨gb129, 0, none⟩ = some (.int .i64 a0_0) := (blk_cell BK129.out 0).trans rfl; have hcz14_1 : w13.cell? ⟨gb129, 1, none⟩ = some (.int .i64 a0_1) := (blk_cell BK129.out 1).trans rfl; have hcz14_2 : w13.cell? ⟨gb129, 2, none⟩ = some (.int .i64 a0_2) := (blk_cell BK129.out 2).trans rfl; have hfz14_0 := blk_frozen BK129.out 0; have hfz14_1 := blk_frozen BK129.out 1; have hfz14_2 := blk_frozen BK129.out 2))
        go_ret
        exact ⟨by first | rfl | (simp [errW_none, errW_some] <;> rfl) | (simp [*, errW_none, errW_some] <;> rfl), by repeat (first | (with_reducible first | exact HB.out | apply below_alloc | apply pw_below_drewN | apply below_drew1 | refine below_set ?_ GE129.out) | exact HB.out)⟩
    · rw [if_neg c3] at H
      have c3b0 : decide (a0_0 < 1099511627776) = false := decide_eq_false c3
      clear c3
      obtain rfl := Option.some.inj H
      go_enter Try.func49, Try.ntmps49
      go_wp2_with (first | ((with_reducible refine gate_dst (N := 1) rfl ?_); refine box_event ?hg (N := 1) ?hd (cs := #[.int .i64 a0_0, .int .i64 a0_1, .int .i64 a0_2]) (t := 23) ?hr ?_; (case hd => rfl); (case hg => rfl); (case hr => first | (go_simp; done) | (go_simp; rfl)); intro gb129 hg w15 hbox hb; have n0_ := Aside0.mk (below_step (by repeat (first | (with_reducible first | exact HB.out | apply below_alloc | apply pw_below_drewN | apply below_drew1) | exact HB.out)) hb); have n1_ := Aside0.mk (hbox); have n2_ := Aside0.mk ((by rw [hg]; exact (below_size (by repeat (first | (with_reducible first | exact HB.out | apply below_alloc | apply pw_below_drewN | apply below_drew1) | exact HB.out))) : w.heap.size ≤ gb129)); have n3_ := Aside0.mk ((by rw [hg]; exact (below_size (by repeat (first | (with_reducible first | exact HB.out | apply below_alloc | apply pw_below_drewN | apply below_drew1) | exact HB.out))) : w.heap.size ≤ gb129)); clear HB; have HB := n0_; have BK129 := n1_; have GW129 := n2_; have GE129 := n3_; clear n0_ n1_ n2_ n3_; clear hb hbox hg; have hcz16_0 : w15.cell? ⟨gb129, 0, none⟩ = some (.int .i64 a0_0) := (blk_cell BK129.out 0).trans rfl; have hcz16_1 : w15.cell? ⟨gb129, 1, none⟩ = some (.int .i64 a0_1) := (blk_cell BK129.out 1).trans rfl; have hcz16_2 : w15.cell? ⟨gb129, 2, none⟩ = some (.int .i64 a0_2) := (blk_cell BK129.out 2).trans rfl; have hfz16_0 := blk_frozen BK129.out 0; have hfz16_1 := blk_frozen BK129.out 1; have hfz16_2 := blk_frozen BK129.out 2))
      go_ret
      exact ⟨by first | rfl | (simp [errW_none, errW_some] <;> rfl) | (simp [*, errW_none, errW_some] <;> rfl), by repeat (first | (with_reducible first | exact HB.out | apply below_alloc | apply pw_below_drewN | apply below_drew1 | refine below_set ?_ GE129.out) | exact HB.out)⟩
  · rw [if_neg c2] at H
    have c2b0 : decide (1 ≤ a0_0) = false := decide_eq_false c2
    clear c2
    obtain rfl := Option.some.inj H
    go_enter Try.func49, Try.ntmps49
    go_wp2_with (first | ((with_reducible refine gate_dst (N := 1) rfl ?_); refine box_event ?hg (N := 1) ?hd (cs := #[.int .i64 a0_0, .int .i64 a0_1, .int .i64 a0_2]) (t := 23) ?hr ?_; (case hd => rfl); (case hg => rfl); (case hr => first | (go_simp; done) | (go_simp; rfl)); intro gb129 hg w17 hbox hb; have n0_ := Aside0.mk (below_step (by repeat (first | (with_reducible first | exact HB.out | apply below_alloc | apply pw_below_drewN | apply below_drew1) | exact HB.out)) hb); have n1_ := Aside0.mk (hbox); have n2_ := Aside0.mk ((by rw [hg]; exact (below_size (by repeat (first | (with_reducible first | exact HB.out | apply below_alloc | apply pw_below_drewN | apply below_drew1) | exact HB.out))) : w.heap.size ≤ gb129)); have n3_ := Aside0.mk ((by rw [hg]; exact (below_size (by repeat (first | (with_reducible first | exact HB.out | apply below_alloc | apply pw_below_drewN | apply below_drew1) | exact HB.out))) : w.heap.size ≤ gb129)); clear HB; have HB := n0_; have BK129 := n1_; have GW129 := n2_; have GE129 := n3_; clear n0_ n1_ n2_ n3_; clear hb hbox hg; have hcz18_0 : w17.cell? ⟨gb129, 0, none⟩ = some (.int .i64 a0_0) := (blk_cell BK129.out 0).trans rfl; have hcz18_1 : w17.cell? ⟨gb129, 1, none⟩ = some (.int .i64 a0_1) := (blk_cell BK129.out 1).trans rfl; have hcz18_2 : w17.cell? ⟨gb129, 2, none⟩ = some (.int .i64 a0_2) := (blk_cell BK129.out 2).trans rfl; have hfz18_0 := blk_frozen BK129.out 0; have hfz18_1 := blk_frozen BK129.out 1; have hfz18_2 := blk_frozen BK129.out 2))
    go_ret
    exact ⟨by first | rfl | (simp [errW_none, errW_some] <;> rfl) | (simp [*, errW_none, errW_some] <;> rfl), by repeat (first | (with_reducible first | exact HB.out | apply below_alloc | apply pw_below_drewN | apply below_drew1 | refine below_set ?_ GE129.out) | exact HB.out)⟩
def lighterref08_Find.l0 : Nat → List (S25) → Int → Int → Option (Int)
  | 0, _, _, _ => none
  | k + 1, x0, x1, x5 => if x5 < (x0.length : Int) then (if 0 ≤ x5 then (if ((rd_T25 x0 x5).f0) = x1 then (some x5) else (lighterref08_Find.l0 k x0 x1 (wrap64 (x5 + 1)))) else (none)) else (some (-1))
def lighterref08_Find.f (k : Nat) (l0 : List (S25)) (a1 : Int) : Option (Int) := lighterref08_Find.l0 k l0 a1 0
theorem lighterref08_Find.mono_l : ∀ k, (∀ y0 y1 y2, LeO (lighterref08_Find.l0 k y0 y1 y2) (lighterref08_Find.l0 (k + 1) y0 y1 y2))
  | 0 => fun _ _ _ r h => by simp [lighterref08_Find.l0] at h
  | k + 1 => by
    have ih0 := lighterref08_Find.mono_l k
    · intro y0 y1 y2
      unfold lighterref08_Find.l0
      repeat' first
      | (with_reducible exact ih0 _ _ _)
      | (with_reducible exact LeO.refl _)
      | (with_reducible exact LeO.none _)
      | (with_reducible refine LeO.ite ?_ ?_)
      | (with_reducible refine LeO.bind ?_ (fun _ => ?_))
      | exact ih0 _ _ _
      | exact LeO.none _
      | refine LeO.ite ?_ ?_
      | refine LeO.bind ?_ (fun _ => ?_)
theorem lighterref08_Find.mono : ∀ a0 a1 k, LeO (lighterref08_Find.f k a0 a1) (lighterref08_Find.f (k + 1) a0 a1) := by
  intro a0 a1 k
  have ih0 := lighterref08_Find.mono_l k
  unfold lighterref08_Find.f
  repeat' first
      | (with_reducible exact ih0 _ _ _)
      | (with_reducible exact LeO.refl _)
      | (with_reducible exact LeO.none _)
      | (with_reducible refine LeO.ite ?_ ?_)
      | (with_reducible refine LeO.bind ?_ (fun _ => ?_))
      | exact ih0 _ _ _
      | exact LeO.none _
      | refine LeO.ite ?_ ?_
      | refine LeO.bind ?_ (fun _ => ?_)
set_option maxHeartbeats 8000000 in
set_option maxRecDepth 100000 in
theorem lighterref08_Find.calls (k : Nat) (A0 : Option Addr) (c0 : Nat) (l0 : List (S25)) (a1 : Int) (r : Int) (w : World) (hr0 : Kd.C k25 w A0 l0.length l0) (hc0 : l0.length ≤ c0) (h : lighterref08_Find.f k l0 a1 = some r) :
    Calls Try.prog 34 #[.slice A0 l0.length c0, .int .i64 a1] w fun e w' => e = .returned (.int .i64 r) ∧ Drawn0 w w' := by
  have HR0 := Aside0.mk hr0
  have HC0 := Aside0.mk hc0
  clear hr0 hc0
  have H : (lighterref08_Find.l0 k l0 a1 0) = some r := h
  clear h
  have H' := Aside0.mk H
  clear H
  go_enter Try.func34, Try.ntmps34
  go_wp2
  go_loopg [5] k (fun kq v5 w' => ∃ (x5_1 : Int), v5 = .int .i64 x5_1 ∧ Aside0 (lighterref08_Find.l0 kq l0 a1 x5_1 = some r) ∧ Aside0 (kq ≤ k) ∧ Drawn0 w w')
  case atStart => exact ⟨(0), (by first | rfl | (simp; done) | (simp [*]; done)), H', ⟨Nat.le_refl _⟩, by repeat (first | exact Drawn0.refl _ | apply Drawn0.step)⟩
  case round =>
    clear H'
    try clear p2
    obtain ⟨x5_1, rfl, HA, HK1, ⟨m1, rfl⟩⟩ := hrel
    cases gk with
    | zero => exact absurd HA.out (by simp [lighterref08_Find.l0])
    | succ k1 =>
      have H := HA.out
      clear HA
      simp only [lighterref08_Find.l0] at H
      by_cases c3 : x5_1 < (l0.length : Int)
      · rw [if_pos c3] at H
        have c3b0 : decide (x5_1 < (l0.length : Int)) = true := decide_eq_true c3
        clear c3
        by_cases c4 : 0 ≤ x5_1
        · rw [if_pos c4] at H
          have c4b0 : decide (0 ≤ x5_1) = true := decide_eq_true c4
          clear c4
          by_cases c5 : ((rd_T25 l0 x5_1).f0) = a1
          · rw [if_pos c5] at H
            have c5b0 : (((rd_T25 l0 x5_1).f0) == a1) = true := beq_iff_eq.mpr c5
            have c5b1 : (((rd_T25 l0 x5_1).f0) != a1) = false := bne_eq_false_iff_eq.mpr c5
            clear c5
            obtain rfl := Option.some.inj H
            have p130 : 0 ≤ (x5_1 : Int) := of_decide_eq_true (by first | (with_reducible assumption) | assumption)
            have q130 : x5_1 < (l0.length : Int) := of_decide_eq_true (by first | (with_reducible assumption) | assumption)
            obtain ⟨ad130, e130, hx130_0, hx130_1, hx130_2⟩ := at_T25 HR0.out x5_1 p130 q130
            cases e130
            replace p130 := eq_true p130
            replace q130 := eq_true q130
            go_wp2
            go_ret
            exact ⟨by first | rfl | (simp; done) | (simp [*]; done), by repeat (first | exact Drawn0.refl _ | apply Drawn0.step)⟩
          · rw [if_neg c5] at H
            have c5b0 : (((rd_T25 l0 x5_1).f0) == a1) = false := beq_eq_false_iff_ne.mpr c5
            have c5b1 : (((rd_T25 l0 x5_1).f0) != a1) = true := bne_iff_ne.mpr c5
            have H' := Aside0.mk H
            clear H
            have p130 : 0 ≤ (x5_1 : Int) := of_decide_eq_true (by first | (with_reducible assumption) | assumption)
            have q130 : x5_1 < (l0.length : Int) := of_decide_eq_true (by first | (with_reducible assumption) | assumption)
            obtain ⟨ad130, e130, hx130_0, hx130_1, hx130_2⟩ := at_T25 HR0.out x5_1 p130 q130
            cases e130
            replace p130 := eq_true p130
            replace q130 := eq_true q130
            go_wp2
            go_roundg k1
            case measure => have := HK1.out; omega
            case rel => exact ⟨(wrap64 (x5_1 + 1)), (by first | rfl | (simp; done) | (simp [*]; done)), H', ⟨by have := HK1.out; omega⟩, by repeat (first | exact Drawn0.refl _ | apply Drawn0.step)⟩
        · rw [if_neg c4] at H
          exact absurd H (by simp)
      · rw [if_neg c3] at H
        have c3b0 : decide (x5_1 < (l0.length : Int)) = false := decide_eq_false c3
        clear c3
        obtain rfl := Option.some.inj H
        go_wp2
        go_ret
        exact ⟨by first | rfl | (simp; done) | (simp [*]; done), by repeat (first | exact Drawn0.refl _ | apply Drawn0.step)⟩
def lighterref08_May.f (a0_0 : Int) (a0_1 : Int) (a0_2 : Int) : Option (Bool) := if a0_0 ≥ 1 then (if a0_0 < 1099511627776 then (if a0_1 ≥ 0 then (if a0_1 ≤ 65536 then (if a0_2 ≥ 0 then (some (decide (a0_2 ≤ a0_1))) else (some false)) else (some false)) else (some false)) else (some false)) else (some false)
set_option maxHeartbeats 8000000 in
set_option maxRecDepth 100000 in
theorem lighterref08_May.calls (a0_0 : Int) (a0_1 : Int) (a0_2 : Int) (r : Bool) (w : World) (h : lighterref08_May.f a0_0 a0_1 a0_2 = some r) :
    Calls Try.prog 11 #[.agg #[.int .i64 a0_0, .int .i64 a0_1, .int .i64 a0_2]] w fun e w' => e = .returned (.bool r) ∧ Below w.heap.size w w' := by
  have hu25 := Try.underlying25
  have HB := Aside0.mk (Below.refl w.heap.size w)
  have H : (if a0_0 ≥ 1 then (if a0_0 < 1099511627776 then (if a0_1 ≥ 0 then (if a0_1 ≤ 65536 then (if a0_2 ≥ 0 then (some (decide (a0_2 ≤ a0_1))) else (some false)) else (some false)) else (some false)) else (some false)) else (some false)) = some r := h
  clear h
  by_cases c2 : a0_0 ≥ 1
  · rw [if_pos c2] at H
    have c2b0 : decide (1 ≤ a0_0) = true := decide_eq_true c2
    clear c2
    by_cases c3 : a0_0 < 1099511627776
    · rw [if_pos c3] at H
      have c3b0 : decide (a0_0 < 1099511627776) = true := decide_eq_true c3
      clear c3
      by_cases c4 : a0_1 ≥ 0
      · rw [if_pos c4] at H
        have c4b0 : decide (0 ≤ a0_1) = true := decide_eq_true c4
        clear c4
        by_cases c5 : a0_1 ≤ 65536
        · rw [if_pos c5] at H
          have c5b0 : decide (a0_1 ≤ 65536) = true := decide_eq_true c5
          clear c5
          by_cases c6 : a0_2 ≥ 0
          · rw [if_pos c6] at H
            have c6b0 : decide (0 ≤ a0_2) = true := decide_eq_true c6
            clear c6
            obtain rfl := Option.some.inj H
            go_enter Try.func11, Try.ntmps11
            go_wp2_with (first | ((with_reducible refine gate_dst (N := 1) rfl ?_); refine box_event ?hg (N := 1) ?hd (cs := #[.int .i64 a0_0, .int .i64 a0_1, .int .i64 a0_2]) (t := 25) ?hr ?_; (case hd => rfl); (case hg => rfl); (case hr => first | (go_simp; done) | (go_simp; rfl)); intro gb131 hg w7 hbox hb; have n0_ := Aside0.mk (below_step (by repeat (first | (with_reducible first | exact HB.out | apply below_alloc | apply pw_below_drewN | apply below_drew1) | exact HB.out)) hb); have n1_ := Aside0.mk (hbox); have n2_ := Aside0.mk ((by rw [hg]; exact (below_size (by repeat (first | (with_reducible first | exact HB.out | apply below_alloc | apply pw_below_drewN | apply below_drew1) | exact HB.out))) : w.heap.size ≤ gb131)); have n3_ := Aside0.mk ((by rw [hg]; exact (below_size (by repeat (first | (with_reducible first | exact HB.out | apply below_alloc | apply pw_below_drewN | apply below_drew1) | exact HB.out))) : w.heap.size ≤ gb131)); clear HB; have HB := n0_; have BK131 := n1_; have GW131 := n2_; have GE131 := n3_; clear n0_ n1_ n2_ n3_; clear hb hbox hg; have hcz8_0 : w7.cell? ⟨gb131, 0, none⟩ = some (.int .i64 a0_0) := (blk_cell BK131.out 0).trans rfl; have hcz8_1 : w7.cell? ⟨gb131, 1, none⟩ = some (.int .i64 a0_1) := (blk_cell BK131.out 1).trans rfl; have hcz8_2 : w7.cell? ⟨gb131, 2, none⟩ = some (.int .i64 a0_2) := (blk_cell BK131.out 2).trans rfl; have hfz8_0 := blk_frozen BK131.out 0; have hfz8_1 := blk_frozen BK131.out 1; have hfz8_2 := blk_frozen BK131.out 2))
            go_ret
            exact ⟨by first | rfl | (simp [errW_none, errW_some] <;> rfl) | (simp [*, errW_none, errW_some] <;> rfl), by repeat (first | (with_reducible first | exact HB.out | apply below_alloc | apply pw_below_drewN | apply below_drew1 | refine below_set ?_ GE131.out) | exact HB.out)⟩
          · rw [if_neg c6] at H
            have c6b0 : decide (0 ≤ a0_2) = false := decide_eq_false c6
            clear c6
            obtain rfl := Option.some.inj H
            go_enter Try.func11, Try.ntmps11
            go_wp2_with (first | ((with_reducible refine gate_dst (N := 1) rfl ?_); refine box_event ?hg (N := 1) ?hd (cs := #[.int .i64 a0_0, .int .i64 a0_1, .int .i64 a0_2]) (t := 25) ?hr ?_; (case hd => rfl); (case hg => rfl); (case hr => first | (go_simp; done) | (go_simp; rfl)); intro gb131 hg w9 hbox hb; have n0_ := Aside0.mk (below_step (by repeat (first | (with_reducible first | exact HB.out | apply below_alloc | apply pw_below_drewN | apply below_drew1) | exact HB.out)) hb); have n1_ := Aside0.mk (hbox); have n2_ := Aside0.mk ((by rw [hg]; exact (below_size (by repeat (first | (with_reducible first | exact HB.out | apply below_alloc | apply pw_below_drewN | apply below_drew1) | exact HB.out))) : w.heap.size ≤ gb131)); have n3_ := Aside0.mk ((by rw [hg]; exact (below_size (by repeat (first | (with_reducible first | exact HB.out | apply below_alloc | apply pw_below_drewN | apply below_drew1) | exact HB.out))) : w.heap.size ≤ gb131)); clear HB; have HB := n0_; have BK131 := n1_; have GW131 := n2_; have GE131 := n3_; clear n0_ n1_ n2_ n3_; clear hb hbox hg; have hcz10_0 : w9.cell? ⟨gb131, 0, none⟩ = some (.int .i64 a0_0) := (blk_cell BK131.out 0).trans rfl; have hcz10_1 : w9.cell? ⟨gb131, 1, none⟩ = some (.int .i64 a0_1) := (blk_cell BK131.out 1).trans rfl; have hcz10_2 : w9.cell? ⟨gb131, 2, none⟩ = some (.int .i64 a0_2) := (blk_cell BK131.out 2).trans rfl; have hfz10_0 := blk_frozen BK131.out 0; have hfz10_1 := blk_frozen BK131.out 1; have hfz10_2 := blk_frozen BK131.out 2))
            go_ret
            exact ⟨by first | rfl | (simp [errW_none, errW_some] <;> rfl) | (simp [*, errW_none, errW_some] <;> rfl), by repeat (first | (with_reducible first | exact HB.out | apply below_alloc | apply pw_below_drewN | apply below_drew1 | refine below_set ?_ GE131.out) | exact HB.out)⟩
        · rw [if_neg c5] at H
          have c5b0 : decide (a0_1 ≤ 65536) = false := decide_eq_false c5
          clear c5
          obtain rfl := Option.some.inj H
          go_enter Try.func11, Try.ntmps11
          go_wp2_with (first | ((with_reducible refine gate_dst (N := 1) rfl ?_); refine box_event ?hg (N := 1) ?hd (cs := #[.int .i64 a0_0, .int .i64 a0_1, .int .i64 a0_2]) (t := 25) ?hr ?_; (case hd => rfl); (case hg => rfl); (case hr => first | (go_simp; done) | (go_simp; rfl)); intro gb131 hg w11 hbox hb; have n0_ := Aside0.mk (below_step (by repeat (first | (with_reducible first | exact HB.out | apply below_alloc | apply pw_below_drewN | apply below_drew1) | exact HB.out)) hb); have n1_ := Aside0.mk (hbox); have n2_ := Aside0.mk ((by rw [hg]; exact (below_size (by repeat (first | (with_reducible first | exact HB.out | apply below_alloc | apply pw_below_drewN | apply below_drew1) | exact HB.out))) : w.heap.size ≤ gb131)); have n3_ := Aside0.mk ((by rw [hg]; exact (below_size (by repeat (first | (with_reducible first | exact HB.out | apply below_alloc | apply pw_below_drewN | apply below_drew1) | exact HB.out))) : w.heap.size ≤ gb131)); clear HB; have HB := n0_; have BK131 := n1_; have GW131 := n2_; have GE131 := n3_; clear n0_ n1_ n2_ n3_; clear hb hbox hg; have hcz12_0 : w11.cell? ⟨gb131, 0, none⟩ = some (.int .i64 a0_0) := (blk_cell BK131.out 0).trans rfl; have hcz12_1 : w11.cell? ⟨gb131, 1, none⟩ = some (.int .i64 a0_1) := (blk_cell BK131.out 1).trans rfl; have hcz12_2 : w11.cell? ⟨gb131, 2, none⟩ = some (.int .i64 a0_2) := (blk_cell BK131.out 2).trans rfl; have hfz12_0 := blk_frozen BK131.out 0; have hfz12_1 := blk_frozen BK131.out 1; have hfz12_2 := blk_frozen BK131.out 2))
          go_ret
          exact ⟨by first | rfl | (simp [errW_none, errW_some] <;> rfl) | (simp [*, errW_none, errW_some] <;> rfl), by repeat (first | (with_reducible first | exact HB.out | apply below_alloc | apply pw_below_drewN | apply below_drew1 | refine below_set ?_ GE131.out) | exact HB.out)⟩
      · rw [if_neg c4] at H
        have c4b0 : decide (0 ≤ a0_1) = false := decide_eq_false c4
        clear c4
        obtain rfl := Option.some.inj H
        go_enter Try.func11, Try.ntmps11
        go_wp2_with (first | ((with_reducible refine gate_dst (N := 1) rfl ?_); refine box_event ?hg (N := 1) ?hd (cs := #[.int .i64 a0_0, .int .i64 a0_1, .int .i64 a0_2]) (t := 25) ?hr ?_; (case hd => rfl); (case hg => rfl); (case hr => first | (go_simp; done) | (go_simp; rfl)); intro gb131 hg w13 hbox hb; have n0_ := Aside0.mk (below_step (by repeat (first | (with_reducible first | exact HB.out | apply below_alloc | apply pw_below_drewN | apply below_drew1) | exact HB.out)) hb); have n1_ := Aside0.mk (hbox); have n2_ := Aside0.mk ((by rw [hg]; exact (below_size (by repeat (first | (with_reducible first | exact HB.out | apply below_alloc | apply pw_below_drewN | apply below_drew1) | exact HB.out))) : w.heap.size ≤ gb131)); have n3_ := Aside0.mk ((by rw [hg]; exact (below_size (by repeat (first | (with_reducible first | exact HB.out | apply below_alloc | apply pw_below_drewN | apply below_drew1) | exact HB.out))) : w.heap.size ≤ gb131)); clear HB; have HB := n0_; have BK131 := n1_; have GW131 := n2_; have GE131 := n3_; clear n0_ n1_ n2_ n3_; clear hb hbox hg; have hcz14_0 : w13.cell? ⟨gb131, 0, none⟩ = some (.int .i64 a0_0) := (blk_cell BK131.out 0).trans rfl; have hcz14_1 : w13.cell? ⟨gb131, 1, none⟩ = some (.int .i64 a0_1) := (blk_cell BK131.out 1).trans rfl; have hcz14_2 : w13.cell? ⟨gb131, 2, none⟩ = some (.int .i64 a0_2) := (blk_cell BK131.out 2).trans rfl; have hfz14_0 := blk_frozen BK131.out 0; have hfz14_1 := blk_frozen BK131.out 1; have hfz14_2 := blk_frozen BK131.out 2))
        go_ret
        exact ⟨by first | rfl | (simp [errW_none, errW_some] <;> rfl) | (simp [*, errW_none, errW_some] <;> rfl), by repeat (first | (with_reducible first | exact HB.out | apply below_alloc | apply pw_below_drewN | apply below_drew1 | refine below_set ?_ GE131.out) | exact HB.out)⟩
    · rw [if_neg c3] at H
      have c3b0 : decide (a0_0 < 1099511627776) = false := decide_eq_false c3
      clear c3
      obtain rfl := Option.some.inj H
      go_enter Try.func11, Try.ntmps11
      go_wp2_with (first | ((with_reducible refine gate_dst (N := 1) rfl ?_); refine box_event ?hg (N := 1) ?hd (cs := #[.int .i64 a0_0, .int .i64 a0_1, .int .i64 a0_2]) (t := 25) ?hr ?_; (case hd => rfl); (case hg => rfl); (case hr => first | (go_simp; done) | (go_simp; rfl)); intro gb131 hg w15 hbox hb; have n0_ := Aside0.mk (below_step (by repeat (first | (with_reducible first | exact HB.out | apply below_alloc | apply pw_below_drewN | apply below_drew1) | exact HB.out)) hb); have n1_ := Aside0.mk (hbox); have n2_ := Aside0.mk ((by rw [hg]; exact (below_size (by repeat (first | (with_reducible first | exact HB.out | apply below_alloc | apply pw_below_drewN | apply below_drew1) | exact HB.out))) : w.heap.size ≤ gb131)); have n3_ := Aside0.mk ((by rw [hg]; exact (below_size (by repeat (first | (with_reducible first | exact HB.out | apply below_alloc | apply pw_below_drewN | apply below_drew1) | exact HB.out))) : w.heap.size ≤ gb131)); clear HB; have HB := n0_; have BK131 := n1_; have GW131 := n2_; have GE131 := n3_; clear n0_ n1_ n2_ n3_; clear hb hbox hg; have hcz16_0 : w15.cell? ⟨gb131, 0, none⟩ = some (.int .i64 a0_0) := (blk_cell BK131.out 0).trans rfl; have hcz16_1 : w15.cell? ⟨gb131, 1, none⟩ = some (.int .i64 a0_1) := (blk_cell BK131.out 1).trans rfl; have hcz16_2 : w15.cell? ⟨gb131, 2, none⟩ = some (.int .i64 a0_2) := (blk_cell BK131.out 2).trans rfl; have hfz16_0 := blk_frozen BK131.out 0; have hfz16_1 := blk_frozen BK131.out 1; have hfz16_2 := blk_frozen BK131.out 2))
      go_ret
      exact ⟨by first | rfl | (simp [errW_none, errW_some] <;> rfl) | (simp [*, errW_none, errW_some] <;> rfl), by repeat (first | (with_reducible first | exact HB.out | apply below_alloc | apply pw_below_drewN | apply below_drew1 | refine below_set ?_ GE131.out) | exact HB.out)⟩
  · rw [if_neg c2] at H
    have c2b0 : decide (1 ≤ a0_0) = false := decide_eq_false c2
    clear c2
    obtain rfl := Option.some.inj H
    go_enter Try.func11, Try.ntmps11
    go_wp2_with (first | ((with_reducible refine gate_dst (N := 1) rfl ?_); refine box_event ?hg (N := 1) ?hd (cs := #[.int .i64 a0_0, .int .i64 a0_1, .int .i64 a0_2]) (t := 25) ?hr ?_; (case hd => rfl); (case hg => rfl); (case hr => first | (go_simp; done) | (go_simp; rfl)); intro gb131 hg w17 hbox hb; have n0_ := Aside0.mk (below_step (by repeat (first | (with_reducible first | exact HB.out | apply below_alloc | apply pw_below_drewN | apply below_drew1) | exact HB.out)) hb); have n1_ := Aside0.mk (hbox); have n2_ := Aside0.mk ((by rw [hg]; exact (below_size (by repeat (first | (with_reducible first | exact HB.out | apply below_alloc | apply pw_below_drewN | apply below_drew1) | exact HB.out))) : w.heap.size ≤ gb131)); have n3_ := Aside0.mk ((by rw [hg]; exact (below_size (by repeat (first | (with_reducible first | exact HB.out | apply below_alloc | apply pw_below_drewN | apply below_drew1) | exact HB.out))) : w.heap.size ≤ gb131)); clear HB; have HB := n0_; have BK131 := n1_; have GW131 := n2_; have GE131 := n3_; clear n0_ n1_ n2_ n3_; clear hb hbox hg; have hcz18_0 : w17.cell? ⟨gb131, 0, none⟩ = some (.int .i64 a0_0) := (blk_cell BK131.out 0).trans rfl; have hcz18_1 : w17.cell? ⟨gb131, 1, none⟩ = some (.int .i64 a0_1) := (blk_cell BK131.out 1).trans rfl; have hcz18_2 : w17.cell? ⟨gb131, 2, none⟩ = some (.int .i64 a0_2) := (blk_cell BK131.out 2).trans rfl; have hfz18_0 := blk_frozen BK131.out 0; have hfz18_1 := blk_frozen BK131.out 1; have hfz18_2 := blk_frozen BK131.out 2))
    go_ret
    exact ⟨by first | rfl | (simp [errW_none, errW_some] <;> rfl) | (simp [*, errW_none, errW_some] <;> rfl), by repeat (first | (with_reducible first | exact HB.out | apply below_alloc | apply pw_below_drewN | apply below_drew1 | refine below_set ?_ GE131.out) | exact HB.out)⟩
def lighterref08_with.l0 : Nat → List (S25) → List (S25) → Int → Int → Int → Int → Option ((List (S25)))
  | 0, _, _, _, _, _, _ => none
  | k + 1, x0, x5, x6, x133000, x133001, x133002 => if x6 < (x0.length : Int) then (if 0 ≤ x6 then (if ((rd_T25 x0 x6).f0) < x133000 then (if x5.length < 5864062014805 then (lighterref08_with.l0 k x0 (x5 ++ [(⟨(rd_T25 x0 x6).f0, (rd_T25 x0 x6).f1, (rd_T25 x0 x6).f2⟩ : S25)]) (wrap64 (x6 + 1)) x133000 x133001 x133002) else (none)) else (if x5.length < 5864062014805 then ((some (x5 ++ [(⟨x133000, x133001, x133002⟩ : S25)] : List (S25))).bind fun y138 => (if x6 ≤ (x0.length : Int) then ((some (x0.drop (x6 : Int).toNat : List (S25))).bind fun y141 => (if y138.length + y141.length < 5864062014805 then (some (y138 ++ y141)) else (none))) else (none))) else (none))) else (none)) else (if x5.length < 5864062014805 then ((some (x5 ++ [(⟨x133000, x133001, x133002⟩ : S25)] : List (S25))).bind fun y148 => (if 0 ≤ x6 then (if x6 ≤ (x0.length : Int) then ((some (x0.drop (x6 : Int).toNat : List (S25))).bind fun y151 => (if y148.length + y151.length < 5864062014805 then (some (y148 ++ y151)) else (none))) else (none)) else (none))) else (none))
def lighterref08_with.f (k : Nat) (l0 : List (S25)) (a1_0 : Int) (a1_1 : Int) (a1_2 : Int) : Option ((List (S25))) := lighterref08_with.l0 k l0 ([] : List (S25)) 0 a1_0 a1_1 a1_2
theorem lighterref08_with.mono_l : ∀ k, (∀ y0 y1 y2 y3 y4 y5, LeO (lighterref08_with.l0 k y0 y1 y2 y3 y4 y5) (lighterref08_with.l0 (k + 1) y0 y1 y2 y3 y4 y5))
  | 0 => fun _ _ _ _ _ _ r h => by simp [lighterref08_with.l0] at h
  | k + 1 => by
    have ih0 := lighterref08_with.mono_l k
    · intro y0 y1 y2 y3 y4 y5
      unfold lighterref08_with.l0
      repeat' first
      | (with_reducible exact ih0 _ _ _ _ _ _)
      | (with_reducible exact LeO.refl _)
      | (with_reducible exact LeO.none _)
      | (with_reducible refine LeO.ite ?_ ?_)
      | (with_reducible refine LeO.bind ?_ (fun _ => ?_))
      | exact ih0 _ _ _ _ _ _
      | exact LeO.none _
      | refine LeO.ite ?_ ?_
      | refine LeO.bind ?_ (fun _ => ?_)
theorem lighterref08_with.mono : ∀ a0 a1 a2 a3 k, LeO (lighterref08_with.f k a0 a1 a2 a3) (lighterref08_with.f (k + 1) a0 a1 a2 a3) := by
  intro a0 a1 a2 a3 k
  have ih0 := lighterref08_with.mono_l k
  unfold lighterref08_with.f
  repeat' first
      | (with_reducible exact ih0 _ _ _ _ _ _)
      | (with_reducible exact LeO.refl _)
      | (with_reducible exact LeO.none _)
      | (with_reducible refine LeO.ite ?_ ?_)
      | (with_reducible refine LeO.bind ?_ (fun _ => ?_))
      | exact ih0 _ _ _ _ _ _
      | exact LeO.none _
      | refine LeO.ite ?_ ?_
      | refine LeO.bind ?_ (fun _ => ?_)
set_option maxHeartbeats 8000000 in
set_option maxRecDepth 100000 in
theorem lighterref08_with.calls (k : Nat) (A0 : Option Addr) (c0 : Nat) (l0 : List (S25)) (a1_0 : Int) (a1_1 : Int) (a1_2 : Int) (r : List (S25)) (w : World) (hr0 : Kd.C k25 w A0 l0.length l0) (hc0 : l0.length ≤ c0) (h : lighterref08_with.f k l0 a1_0 a1_1 a1_2 = some r) :
    Calls Try.prog 35 #[.slice A0 l0.length c0, .agg #[.int .i64 a1_0, .int .i64 a1_1, .int .i64 a1_2]] w fun e w' => ∃ v0_ : Value, e = .returned (v0_) ∧ Kd.R k25 25 w' w.heap.size (fun _ => True) v0_ r ∧ Below w.heap.size w w' := by
  have hu25 := Try.underlying25
  have HR0 := Aside0.mk hr0
  have HC0 := Aside0.mk hc0
  clear hr0 hc0
  have HB := Aside0.mk (Below.refl w.heap.size w)
  have H : (lighterref08_with.l0 k l0 ([] : List (S25)) 0 a1_0 a1_1 a1_2) = some r := h
  clear h
  have H' := Aside0.mk H
  clear H
  go_enter Try.func35, Try.ntmps35
  go_wp2_with (first | ((with_reducible refine gate_dst (N := 3) rfl ?_); refine box_event ?hg (N := 3) ?hd (cs := #[.int .i64 a1_0, .int .i64 a1_1, .int .i64 a1_2]) (t := 25) ?hr ?_; (case hd => rfl); (case hg => rfl); (case hr => first | (go_simp; done) | (go_simp; rfl)); intro gb132 hg w3 hbox hb; have n0_ := Aside0.mk (below_step (by repeat (first | (with_reducible first | exact HB.out | apply below_alloc | apply pw_below_drewN | apply below_drew1) | exact HB.out)) hb); have n1_ := Aside0.mk (hbox); have n2_ := Aside0.mk ((by rw [hg]; exact (below_size (by repeat (first | (with_reducible first | exact HB.out | apply below_alloc | apply pw_below_drewN | apply below_drew1) | exact HB.out))) : w.heap.size ≤ gb132)); have n3_ := Aside0.mk ((by rw [hg]; exact (below_size (by repeat (first | (with_reducible first | exact HB.out | apply below_alloc | apply pw_below_drewN | apply below_drew1) | exact HB.out))) : w.heap.size ≤ gb132)); clear HB; have HB := n0_; have BK132 := n1_; have GW132 := n2_; have GE132 := n3_; clear n0_ n1_ n2_ n3_; clear hb hbox hg))
  repeat (go_quiet (first | ((with_reducible refine gate_dst (N := 3) rfl ?_); refine box_event ?hg (N := 3) ?hd (cs := #[.int .i64 a1_0, .int .i64 a1_1, .int .i64 a1_2]) (t := 25) ?hr ?_; (case hd => rfl); (case hg => rfl); (case hr => first | (go_simp; done) | (go_simp; rfl)); intro gb132 hg w3 hbox hb; have n0_ := Aside0.mk (below_step (by repeat (first | (with_reducible first | exact HB.out | apply below_alloc | apply pw_below_drewN | apply below_drew1) | exact HB.out)) hb); have n1_ := Aside0.mk (hbox); have n2_ := Aside0.mk ((by rw [hg]; exact (below_size (by repeat (first | (with_reducible first | exact HB.out | apply below_alloc | apply pw_below_drewN | apply below_drew1) | exact HB.out))) : w.heap.size ≤ gb132)); have n3_ := Aside0.mk ((by rw [hg]; exact (below_size (by repeat (first | (with_reducible first | exact HB.out | apply below_alloc | apply pw_below_drewN | apply below_drew1) | exact HB.out))) : w.heap.size ≤ gb132)); clear HB; have HB := n0_; have BK132 := n1_; have GW132 := n2_; have GE132 := n3_; clear n0_ n1_ n2_ n3_; clear hb hbox hg)); try go_wp2_with (first | ((with_reducible refine gate_dst (N := 3) rfl ?_); refine box_event ?hg (N := 3) ?hd (cs := #[.int .i64 a1_0, .int .i64 a1_1, .int .i64 a1_2]) (t := 25) ?hr ?_; (case hd => rfl); (case hg => rfl); (case hr => first | (go_simp; done) | (go_simp; rfl)); intro gb132 hg w3 hbox hb; have n0_ := Aside0.mk (below_step (by repeat (first | (with_reducible first | exact HB.out | apply below_alloc | apply pw_below_drewN | apply below_drew1) | exact HB.out)) hb); have n1_ := Aside0.mk (hbox); have n2_ := Aside0.mk ((by rw [hg]; exact (below_size (by repeat (first | (with_reducible first | exact HB.out | apply below_alloc | apply pw_below_drewN | apply below_drew1) | exact HB.out))) : w.heap.size ≤ gb132)); have n3_ := Aside0.mk ((by rw [hg]; exact (below_size (by repeat (first | (with_reducible first | exact HB.out | apply below_alloc | apply pw_below_drewN | apply below_drew1) | exact HB.out))) : w.heap.size ≤ gb132)); clear HB; have HB := n0_; have BK132 := n1_; have GW132 := n2_; have GE132 := n3_; clear n0_ n1_ n2_ n3_; clear hb hbox hg)))
  go_loopg [5, 6] k (fun kq v5 v6 w' => ∃ (x5_1 : List (S25)) (x6_1 : Int), v6 = .int .i64 x6_1 ∧ Aside0 (lighterref08_with.l0 kq l0 x5_1 x6_1 a1_0 a1_1 a1_2 = some r) ∧ Aside0 (kq ≤ k) ∧ Aside0 (Kd.R k25 25 w' w.heap.size (fun k_ => k_ ≠ gb132) v5 x5_1) ∧ Aside0 (w'.heap[gb132]? = some (.cells #[.int .i64 a1_0, .int .i64 a1_1, .int .i64 a1_2] 25 (0, 0))) ∧ Aside0 (Below w.heap.size w w'))
  case atStart => exact ⟨(([] : List (S25))), (0), (by first | rfl | (simp; done) | (simp [*]; done)), H', ⟨Nat.le_refl _⟩, ⟨by first | exact Kd.R_nil _ _ _ _ _ | exact Kd.N_nil _ _ _ _ _ | exact Kd.V_nil _ _ _ _ _ | exact Kd.Q_nil _ _ _ _ _ | exact Kd.S_nil _ _ _ _ _⟩, ⟨by (with_reducible repeat (first | refine blk_drewN ?_ _ | refine blk_drew ?_ | refine blk_alloc ?_ _)); exact BK132.out⟩, ⟨by repeat (first | (with_reducible first | exact HB.out | apply below_alloc | apply pw_below_drewN | apply below_drew1 | refine below_set ?_ GE132.out) | exact HB.out)⟩⟩
  case round =>
    clear H'
    try clear p2
    try clear c3
    obtain ⟨x5_1, x6_1, rfl, HA, HK1, HO_5, BK132, HB⟩ := hrel
    cases gk with
    | zero => exact absurd HA.out (by simp [lighterref08_with.l0])
    | succ k1 =>
      have H := HA.out
      clear HA
      simp only [lighterref08_with.l0] at H
      by_cases c4 : x6_1 < (l0.length : Int)
      · rw [if_pos c4] at H
        have c4b0 : decide (x6_1 < (l0.length : Int)) = true := decide_eq_true c4
        clear c4
        by_cases c5 : 0 ≤ x6_1
        · rw [if_pos c5] at H
          have c5b0 : decide (0 ≤ x6_1) = true := decide_eq_true c5
          clear c5
          by_cases c6 : ((rd_T25 l0 x6_1).f0) < a1_0
          · rw [if_pos c6] at H
            have c6b0 : decide (((rd_T25 l0 x6_1).f0) < a1_0) = true := decide_eq_true c6
            clear c6
            by_cases c7 : x5_1.length < 5864062014805
            · rw [if_pos c7] at H
              have LMc7 := Aside0.mk c7
              clear c7
              obtain ⟨y135, hy135⟩ : ∃ y_ : List (S25), y_ = (x5_1 ++ [(⟨(rd_T25 l0 x6_1).f0, (rd_T25 l0 x6_1).f1, (rd_T25 l0 x6_1).f2⟩ : S25)]) := ⟨_, rfl⟩
              replace H : (lighterref08_with.l0 k1 l0 y135 (wrap64 (x6_1 + 1)) a1_0 a1_1 a1_2) = some r := by first | (rw [hy135]; with_reducible exact H) | (have H2_ := (Option.bind_some _ _).symm.trans H; rw [hy135]; with_reducible exact H2_) | (have H2_ := (Option.bind_some _ _).symm.trans H; with_reducible exact H2_) | with_reducible exact H | (rw [hy135]; exact H) | exact H
              have Ny135 := Aside0.mk hy135
              clear hy135
              have H' := Aside0.mk H
              clear H
              have p133 : 0 ≤ (x6_1 : Int) := of_decide_eq_true (by first | (with_reducible assumption) | assumption)
              have q133 : x6_1 < (l0.length : Int) := of_decide_eq_true (by first | (with_reducible assumption) | assumption)
              obtain ⟨ad133, e133, hx133_0, hx133_1, hx133_2⟩ := at_T25 HR0.out x6_1 p133 q133
              cases e133
              replace hx133_0 := (HB.out.cell (World.block_lt_of_cell? w _ hx133_0)).trans hx133_0
              replace hx133_1 := (HB.out.cell (World.block_lt_of_cell? w _ hx133_1)).trans hx133_1
              replace hx133_2 := (HB.out.cell (World.block_lt_of_cell? w _ hx133_2)).trans hx133_2
              replace p133 := eq_true p133
              replace q133 := eq_true q133
              have hcz8_0 : wr.cell? ⟨gb132, 0, none⟩ = some (.int .i64 a1_0) := (blk_cell BK132.out 0).trans rfl
              have hcz8_1 : wr.cell? ⟨gb132, 1, none⟩ = some (.int .i64 a1_1) := (blk_cell BK132.out 1).trans rfl
              have hcz8_2 : wr.cell? ⟨gb132, 2, none⟩ = some (.int .i64 a1_2) := (blk_cell BK132.out 2).trans rfl
              have hfz8_0 := blk_frozen BK132.out 0
              have hfz8_1 := blk_frozen BK132.out 1
              have hfz8_2 := blk_frozen BK132.out 2
              have p134 : 0 ≤ (x6_1 : Int) := of_decide_eq_true (by first | (with_reducible assumption) | assumption)
              have q134 : x6_1 < (l0.length : Int) := of_decide_eq_true (by first | (with_reducible assumption) | assumption)
              obtain ⟨ad134, e134, hx134_0, hx134_1, hx134_2⟩ := at_T25 HR0.out x6_1 p134 q134
              obtain rfl : ad133 = ad134 := (by injection e134)
              replace hx134_0 := (HB.out.cell (World.block_lt_of_cell? w _ hx134_0)).trans hx134_0
              replace hx134_1 := (HB.out.cell (World.block_lt_of_cell? w _ hx134_1)).trans hx134_1
              replace hx134_2 := (HB.out.cell (World.block_lt_of_cell? w _ hx134_2)).trans hx134_2
              replace p134 := eq_true p134
              replace q134 := eq_true q134
              go_wp2_with (first | ((with_reducible refine gate_builtin (b := .append) (xs := #[.tmp 21, .tmp 26]) rfl ?_); at_builtin; refine Kd.R_append k25 (w0 := w) w.heap.size rfl (.tmp 21) (.tmp 26) 26 25 (.agg #[(.int .i64 0), (.int .i64 0), (.int .i64 0)]) 24 rfl Try.underlying26 info25 rfl (by decide) (by omega) u5 x5_1 (⟨(rd_T25 l0 x6_1).f0, (rd_T25 l0 x6_1).f1, (rd_T25 l0 x6_1).f2⟩ : S25) [.int .i64 ((rd_T25 l0 x6_1).f0), .int .i64 ((rd_T25 l0 x6_1).f1), .int .i64 ((rd_T25 l0 x6_1).f2)] (fun k_ => k_ ≠ gb132) (fun _ => False) rfl rfl ?aP (fun _ hk => hk.elim) ?aF ?aO ?aB ?aS ?aL ?_; (case aP => exact k25_mkM _ _ _ (⟨(rd_T25 l0 x6_1).f0, (rd_T25 l0 x6_1).f1, (rd_T25 l0 x6_1).f2⟩ : S25)); (case aB => exact (by repeat (first | (with_reducible first | exact HB.out | apply below_alloc | apply pw_below_drewN | apply below_drew1 | refine below_set ?_ GE132.out) | exact HB.out))); (case aF => exact (fun k_ hk => Kd.freshB (g := gb132) (o := .cells #[.int .i64 a1_0, .int .i64 a1_1, .int .i64 a1_2] 25 (0, 0)) (by (with_reducible repeat (first | refine blk_drewN ?_ _ | refine blk_drew ?_ | refine blk_alloc ?_ _)); exact BK132.out) k_ hk)); (case aO => exact (by (with_reducible repeat (first | apply Kd.R_alloc | apply Kd.R_drewN | apply Kd.R_drew)); exact HO_5.out)); (case aS => exact (below_size (by repeat (first | (with_reducible first | exact HB.out | apply below_alloc | apply pw_below_drewN | apply below_drew1 | refine below_set ?_ GE132.out) | exact HB.out)))); (case aL => have := LMc7.out; omega); intro v136 w9 ho hb hg hat; rw [← Ny135.out] at ho; have n0_ := Aside0.mk (blk_grown (g := gb132) (o := .cells #[.int .i64 a1_0, .int .i64 a1_1, .int .i64 a1_2] 25 (0, 0)) (by (with_reducible repeat (first | refine blk_drewN ?_ _ | refine blk_drew ?_ | refine blk_alloc ?_ _)); exact BK132.out) hg (Kd.R_away HO_5.out (fun _ hk => hk))); have n1_ := Aside0.mk (hb); have n2_ := Aside0.mk (ho); clear BK132; clear HB; clear HO_5; have BK132 := n0_; have HB := n1_; have HO137 := n2_; clear n0_ n1_ n2_; clear ho hb hg hat))
              repeat (go_quiet (first | ((with_reducible refine gate_builtin (b := .append) (xs := #[.tmp 21, .tmp 26]) rfl ?_); at_builtin; refine Kd.R_append k25 (w0 := w) w.heap.size rfl (.tmp 21) (.tmp 26) 26 25 (.agg #[(.int .i64 0), (.int .i64 0), (.int .i64 0)]) 24 rfl Try.underlying26 info25 rfl (by decide) (by omega) u5 x5_1 (⟨(rd_T25 l0 x6_1).f0, (rd_T25 l0 x6_1).f1, (rd_T25 l0 x6_1).f2⟩ : S25) [.int .i64 ((rd_T25 l0 x6_1).f0), .int .i64 ((rd_T25 l0 x6_1).f1), .int .i64 ((rd_T25 l0 x6_1).f2)] (fun k_ => k_ ≠ gb132) (fun _ => False) rfl rfl ?aP (fun _ hk => hk.elim) ?aF ?aO ?aB ?aS ?aL ?_; (case aP => exact k25_mkM _ _ _ (⟨(rd_T25 l0 x6_1).f0, (rd_T25 l0 x6_1).f1, (rd_T25 l0 x6_1).f2⟩ : S25)); (case aB => exact (by repeat (first | (with_reducible first | exact HB.out | apply below_alloc | apply pw_below_drewN | apply below_drew1 | refine below_set ?_ GE132.out) | exact HB.out))); (case aF => exact (fun k_ hk => Kd.freshB (g := gb132) (o := .cells #[.int .i64 a1_0, .int .i64 a1_1, .int .i64 a1_2] 25 (0, 0)) (by (with_reducible repeat (first | refine blk_drewN ?_ _ | refine blk_drew ?_ | refine blk_alloc ?_ _)); exact BK132.out) k_ hk)); (case aO => exact (by (with_reducible repeat (first | apply Kd.R_alloc | apply Kd.R_drewN | apply Kd.R_drew)); exact HO_5.out)); (case aS => exact (below_size (by repeat (first | (with_reducible first | exact HB.out | apply below_alloc | apply pw_below_drewN | apply below_drew1 | refine below_set ?_ GE132.out) | exact HB.out)))); (case aL => have := LMc7.out; omega); intro v136 w9 ho hb hg hat; rw [← Ny135.out] at ho; have n0_ := Aside0.mk (blk_grown (g := gb132) (o := .cells #[.int .i64 a1_0, .int .i64 a1_1, .int .i64 a1_2] 25 (0, 0)) (by (with_reducible repeat (first | refine blk_drewN ?_ _ | refine blk_drew ?_ | refine blk_alloc ?_ _)); exact BK132.out) hg (Kd.R_away HO_5.out (fun _ hk => hk))); have n1_ := Aside0.mk (hb); have n2_ := Aside0.mk (ho); clear BK132; clear HB; clear HO_5; have BK132 := n0_; have HB := n1_; have HO137 := n2_; clear n0_ n1_ n2_; clear ho hb hg hat)); try go_wp2_with (first | ((with_reducible refine gate_builtin (b := .append) (xs := #[.tmp 21, .tmp 26]) rfl ?_); at_builtin; refine Kd.R_append k25 (w0 := w) w.heap.size rfl (.tmp 21) (.tmp 26) 26 25 (.agg #[(.int .i64 0), (.int .i64 0), (.int .i64 0)]) 24 rfl Try.underlying26 info25 rfl (by decide) (by omega) u5 x5_1 (⟨(rd_T25 l0 x6_1).f0, (rd_T25 l0 x6_1).f1, (rd_T25 l0 x6_1).f2⟩ : S25) [.int .i64 ((rd_T25 l0 x6_1).f0), .int .i64 ((rd_T25 l0 x6_1).f1), .int .i64 ((rd_T25 l0 x6_1).f2)] (fun k_ => k_ ≠ gb132) (fun _ => False) rfl rfl ?aP (fun _ hk => hk.elim) ?aF ?aO ?aB ?aS ?aL ?_; (case aP => exact k25_mkM _ _ _ (⟨(rd_T25 l0 x6_1).f0, (rd_T25 l0 x6_1).f1, (rd_T25 l0 x6_1).f2⟩ : S25)); (case aB => exact (by repeat (first | (with_reducible first | exact HB.out | apply below_alloc | apply pw_below_drewN | apply below_drew1 | refine below_set ?_ GE132.out) | exact HB.out))); (case aF => exact (fun k_ hk => Kd.freshB (g := gb132) (o := .cells #[.int .i64 a1_0, .int .i64 a1_1, .int .i64 a1_2] 25 (0, 0)) (by (with_reducible repeat (first | refine blk_drewN ?_ _ | refine blk_drew ?_ | refine blk_alloc ?_ _)); exact BK132.out) k_ hk)); (case aO => exact (by (with_reducible repeat (first | apply Kd.R_alloc | apply Kd.R_drewN | apply Kd.R_drew)); exact HO_5.out)); (case aS => exact (below_size (by repeat (first | (with_reducible first | exact HB.out | apply below_alloc | apply pw_below_drewN | apply below_drew1 | refine below_set ?_ GE132.out) | exact HB.out)))); (case aL => have := LMc7.out; omega); intro v136 w9 ho hb hg hat; rw [← Ny135.out] at ho; have n0_ := Aside0.mk (blk_grown (g := gb132) (o := .cells #[.int .i64 a1_0, .int .i64 a1_1, .int .i64 a1_2] 25 (0, 0)) (by (with_reducible repeat (first | refine blk_drewN ?_ _ | refine blk_drew ?_ | refine blk_alloc ?_ _)); exact BK132.out) hg (Kd.R_away HO_5.out (fun _ hk => hk))); have n1_ := Aside0.mk (hb); have n2_ := Aside0.mk (ho); clear BK132; clear HB; clear HO_5; have BK132 := n0_; have HB := n1_; have HO137 := n2_; clear n0_ n1_ n2_; clear ho hb hg hat)))
              go_roundg k1
              case measure => have := HK1.out; omega
              case rel => exact ⟨(y135), (wrap64 (x6_1 + 1)), (by first | rfl | (simp; done) | (simp [*]; done)), H', ⟨by have := HK1.out; omega⟩, ⟨by (with_reducible repeat (first | apply Kd.R_alloc | apply Kd.R_drewN | apply Kd.R_drew)); exact HO137.out⟩, ⟨by (with_reducible repeat (first | refine blk_drewN ?_ _ | refine blk_drew ?_ | refine blk_alloc ?_ _)); exact BK132.out⟩, ⟨by repeat (first | (with_reducible first | exact HB.out | apply below_alloc | apply pw_below_drewN | apply below_drew1 | refine below_set ?_ GE132.out) | exact HB.out)⟩⟩
            · rw [if_neg c7] at H
              exact absurd H (by simp)
          · rw [if_neg c6] at H
            have c6b0 : decide (((rd_T25 l0 x6_1).f0) < a1_0) = false := decide_eq_false c6
            clear c6
            by_cases c10 : x5_1.length < 5864062014805
            · rw [if_pos c10] at H
              have LMc10 := Aside0.mk c10
              clear c10
              obtain ⟨y138, hy138⟩ : ∃ y_ : List (S25), y_ = (x5_1 ++ [(⟨a1_0, a1_1, a1_2⟩ : S25)]) := ⟨_, rfl⟩
              replace H : (if x6_1 ≤ (l0.length : Int) then ((some (l0.drop (x6_1 : Int).toNat : List (S25))).bind fun y141 => (if y138.length + y141.length < 5864062014805 then (some (y138 ++ y141)) else (none))) else (none)) = some r := by first | (rw [hy138]; with_reducible exact H) | (have H2_ := (Option.bind_some _ _).symm.trans H; rw [hy138]; with_reducible exact H2_) | (have H2_ := (Option.bind_some _ _).symm.trans H; with_reducible exact H2_) | with_reducible exact H | (rw [hy138]; exact H) | exact H
              have Ny138 := Aside0.mk hy138
              clear hy138
              have c11b0 := eq_true (of_decide_eq_true (by first | (with_reducible assumption) | assumption) : 0 ≤ x6_1)
              by_cases c12 : x6_1 ≤ (l0.length : Int)
              · rw [if_pos c12] at H
                have c12b0 := eq_true c12
                have c12b1 : decide (x6_1 ≤ (l0.length : Int)) = true := decide_eq_true c12
                clear c12
                obtain ⟨y141, hy141⟩ : ∃ y_ : List (S25), y_ = (l0.drop (x6_1 : Int).toNat) := ⟨_, rfl⟩
                replace H : (if y138.length + y141.length < 5864062014805 then (some (y138 ++ y141)) else (none)) = some r := by first | (rw [hy141]; with_reducible exact H) | (have H2_ := (Option.bind_some _ _).symm.trans H; rw [hy141]; with_reducible exact H2_) | (have H2_ := (Option.bind_some _ _).symm.trans H; with_reducible exact H2_) | with_reducible exact H | (rw [hy141]; exact H) | exact H
                have Ny141 := Aside0.mk hy141
                clear hy141
                by_cases c13 : y138.length + y141.length < 5864062014805
                · rw [if_pos c13] at H
                  have LMc13 := Aside0.mk c13
                  clear c13
                  obtain ⟨y145, hy145⟩ : ∃ y_ : List (S25), y_ = (y138 ++ y141) := ⟨_, rfl⟩
                  replace H : (some y145) = some r := by first | (rw [hy145]; with_reducible exact H) | (have H2_ := (Option.bind_some _ _).symm.trans H; rw [hy145]; with_reducible exact H2_) | (have H2_ := (Option.bind_some _ _).symm.trans H; with_reducible exact H2_) | with_reducible exact H | (rw [hy145]; exact H) | exact H
                  have Ny145 := Aside0.mk hy145
                  clear hy145
                  obtain rfl := Option.some.inj H
                  have p133 : 0 ≤ (x6_1 : Int) := of_decide_eq_true (by first | (with_reducible assumption) | assumption)
                  have q133 : x6_1 < (l0.length : Int) := of_decide_eq_true (by first | (with_reducible assumption) | assumption)
                  obtain ⟨ad133, e133, hx133_0, hx133_1, hx133_2⟩ := at_T25 HR0.out x6_1 p133 q133
                  cases e133
                  replace hx133_0 := (HB.out.cell (World.block_lt_of_cell? w _ hx133_0)).trans hx133_0
                  replace hx133_1 := (HB.out.cell (World.block_lt_of_cell? w _ hx133_1)).trans hx133_1
                  replace hx133_2 := (HB.out.cell (World.block_lt_of_cell? w _ hx133_2)).trans hx133_2
                  replace p133 := eq_true p133
                  replace q133 := eq_true q133
                  have hcz14_0 : wr.cell? ⟨gb132, 0, none⟩ = some (.int .i64 a1_0) := (blk_cell BK132.out 0).trans rfl
                  have hcz14_1 : wr.cell? ⟨gb132, 1, none⟩ = some (.int .i64 a1_1) := (blk_cell BK132.out 1).trans rfl
                  have hcz14_2 : wr.cell? ⟨gb132, 2, none⟩ = some (.int .i64 a1_2) := (blk_cell BK132.out 2).trans rfl
                  have hfz14_0 := blk_frozen BK132.out 0
                  have hfz14_1 := blk_frozen BK132.out 1
                  have hfz14_2 := blk_frozen BK132.out 2
                  go_wp2_with (first | ((with_reducible refine gate_builtin (b := .append) (xs := #[.tmp 30, .tmp 32]) rfl ?_); at_builtin; refine Kd.R_append k25 (w0 := w) w.heap.size rfl (.tmp 30) (.tmp 32) 26 25 (.agg #[(.int .i64 0), (.int .i64 0), (.int .i64 0)]) 24 rfl Try.underlying26 info25 rfl (by decide) (by omega) u5 x5_1 (⟨a1_0, a1_1, a1_2⟩ : S25) [.int .i64 a1_0, .int .i64 a1_1, .int .i64 a1_2] (fun k_ => k_ ≠ gb132) (fun _ => False) rfl rfl ?aP (fun _ hk => hk.elim) ?aF ?aO ?aB ?aS ?aL ?_; (case aP => exact k25_mkM _ _ _ (⟨a1_0, a1_1, a1_2⟩ : S25)); (case aB => exact (by repeat (first | (with_reducible first | exact HB.out | apply below_alloc | apply pw_below_drewN | apply below_drew1 | refine below_set ?_ GE132.out) | exact HB.out))); (case aF => exact (fun k_ hk => Kd.freshB (g := gb132) (o := .cells #[.int .i64 a1_0, .int .i64 a1_1, .int .i64 a1_2] 25 (0, 0)) (by (with_reducible repeat (first | refine blk_drewN ?_ _ | refine blk_drew ?_ | refine blk_alloc ?_ _)); exact BK132.out) k_ hk)); (case aO => exact (by (with_reducible repeat (first | apply Kd.R_alloc | apply Kd.R_drewN | apply Kd.R_drew)); exact HO_5.out)); (case aS => exact (below_size (by repeat (first | (with_reducible first | exact HB.out | apply below_alloc | apply pw_below_drewN | apply below_drew1 | refine below_set ?_ GE132.out) | exact HB.out)))); (case aL => have := LMc10.out; omega); intro v139 w15 ho hb hg hat; rw [← Ny138.out] at ho; have n0_ := Aside0.mk (blk_grown (g := gb132) (o := .cells #[.int .i64 a1_0, .int .i64 a1_1, .int .i64 a1_2] 25 (0, 0)) (by (with_reducible repeat (first | refine blk_drewN ?_ _ | refine blk_drew ?_ | refine blk_alloc ?_ _)); exact BK132.out) hg (Kd.R_away HO_5.out (fun _ hk => hk))); have n1_ := Aside0.mk (hb); have n2_ := Aside0.mk (ho); clear BK132; clear HB; clear HO_5; have BK132 := n0_; have HB := n1_; have HO140 := n2_; clear n0_ n1_ n2_; clear ho hb hg hat; have q16 : (x6_1 : Int) ≤ ((l0.length : Int) : Int) := of_decide_eq_true (by first | (with_reducible assumption) | assumption); obtain ⟨i016, hi016, _, hsz16, _⟩ := info_parts info25; have hroom16 : l0.length ≤ c0 := HC0.out; have hC16 : Kd.C k25 _ (some ad133) l0.length l0 := HR0.out; have q016 : (0 : Int) ≤ (x6_1 : Int) := of_decide_eq_true (by first | (with_reducible assumption) | assumption); have hcut16 := cut_from (P := Try.prog) 26 25 .i64 Try.underlying26 hi016 3 hsz16 (some ad133) l0.length c0 x6_1 q016 q16; have hr16 := Kd.C_drop (m := (x6_1 : Int).toNat) (c := c0) hC16 (by omega) hroom16; obtain ⟨A16, hA16⟩ : ∃ A1, A1 = (if c0 = (x6_1 : Int).toNat then (some ad133) else ((some ad133) : Option Addr).map (·.add ((x6_1 : Int).toNat * 3))) := ⟨_, rfl⟩; obtain ⟨c16, hc16⟩ : ∃ c1, c1 = c0 - (x6_1 : Int).toNat := ⟨_, rfl⟩; have hy16 : y141.length = l0.length - (x6_1 : Int).toNat := (by rw [Ny141.out, List.length_drop] <;> omega); rw [show (l0).drop (x6_1 : Int).toNat = y141 from Ny141.out.symm] at hr16; replace hr16 : Kd.C k25 _ A16 y141.length y141 := (by rw [hA16]; exact hr16); rw [← hy16, ← hA16, ← hc16] at hcut16; have HR144 := Aside0.mk hr16; have HC144 := Aside0.mk (show y141.length ≤ c16 from by rw [hy16, hc16]; exact Nat.sub_le_sub_right hroom16 _); clear hr16 hC16 hroom16 hi016 hsz16 hc16; have KY16 := Aside0.mk hy16; have KA16 := Aside0.mk hA16; clear hy16 hA16; replace q16 := eq_true q16) | ((with_reducible refine gate_builtin (b := .append) (xs := #[.tmp 34, .tmp 37]) rfl ?_); at_builtin; refine Kd.R_append_rows k25 (w0 := w) w.heap.size rfl (.tmp 34) (.tmp 37) 26 25 (.agg #[(.int .i64 0), (.int .i64 0), (.int .i64 0)]) 24 rfl Try.underlying26 info25 rfl (by decide) (by omega) v139 y138 y141 _ _ _ (fun k_ => k_ ≠ gb132) (fun _ => False) rfl rfl ?aO ?aR (fun _ _ h => h) (fun _ h => h.elim) ?aF ?aB ?aS ?aL ?_; (case aR => repeat (first | exact (Kd.C_below HR144.out HB.out) | (with_reducible refine Kd.C_alloc ?_ _) | (with_reducible refine Kd.C_drewN ?_ _) | (with_reducible refine Kd.C_drew ?_))); (case aB => exact (by repeat (first | (with_reducible first | exact HB.out | apply below_alloc | apply pw_below_drewN | apply below_drew1 | refine below_set ?_ GE132.out) | exact HB.out))); (case aF => exact (fun k_ hk => Kd.freshB (g := gb132) (o := .cells #[.int .i64 a1_0, .int .i64 a1_1, .int .i64 a1_2] 25 (0, 0)) (by (with_reducible repeat (first | refine blk_drewN ?_ _ | refine blk_drew ?_ | refine blk_alloc ?_ _)); exact BK132.out) k_ hk)); (case aO => exact (by (with_reducible repeat (first | apply Kd.R_alloc | apply Kd.R_drewN | apply Kd.R_drew)); exact HO140.out)); (case aS => exact (below_size (by repeat (first | (with_reducible first | exact HB.out | apply below_alloc | apply pw_below_drewN | apply below_drew1 | refine below_set ?_ GE132.out) | exact HB.out)))); (case aL => have := LMc13.out; omega); intro v146 w17 ho hb hg hat; rw [← Ny145.out] at ho; have n0_ := Aside0.mk (blk_grown (g := gb132) (o := .cells #[.int .i64 a1_0, .int .i64 a1_1, .int .i64 a1_2] 25 (0, 0)) (by (with_reducible repeat (first | refine blk_drewN ?_ _ | refine blk_drew ?_ | refine blk_alloc ?_ _)); exact BK132.out) hg (Kd.R_away HO140.out (fun _ hk => hk))); have n1_ := Aside0.mk (hb); have n2_ := Aside0.mk (ho); clear BK132; clear HB; clear HO140; have BK132 := n0_; have HB := n1_; have HO147 := n2_; clear n0_ n1_ n2_; clear ho hb hg hat))
                  repeat (go_quiet (first | ((with_reducible refine gate_builtin (b := .append) (xs := #[.tmp 30, .tmp 32]) rfl ?_); at_builtin; refine Kd.R_append k25 (w0 := w) w.heap.size rfl (.tmp 30) (.tmp 32) 26 25 (.agg #[(.int .i64 0), (.int .i64 0), (.int .i64 0)]) 24 rfl Try.underlying26 info25 rfl (by decide) (by omega) u5 x5_1 (⟨a1_0, a1_1, a1_2⟩ : S25) [.int .i64 a1_0, .int .i64 a1_1, .int .i64 a1_2] (fun k_ => k_ ≠ gb132) (fun _ => False) rfl rfl ?aP (fun _ hk => hk.elim) ?aF ?aO ?aB ?aS ?aL ?_; (case aP => exact k25_mkM _ _ _ (⟨a1_0, a1_1, a1_2⟩ : S25)); (case aB => exact (by repeat (first | (with_reducible first | exact HB.out | apply below_alloc | apply pw_below_drewN | apply below_drew1 | refine below_set ?_ GE132.out) | exact HB.out))); (case aF => exact (fun k_ hk => Kd.freshB (g := gb132) (o := .cells #[.int .i64 a1_0, .int .i64 a1_1, .int .i64 a1_2] 25 (0, 0)) (by (with_reducible repeat (first | refine blk_drewN ?_ _ | refine blk_drew ?_ | refine blk_alloc ?_ _)); exact BK132.out) k_ hk)); (case aO => exact (by (with_reducible repeat (first | apply Kd.R_alloc | apply Kd.R_drewN | apply Kd.R_drew)); exact HO_5.out)); (case aS => exact (below_size (by repeat (first | (with_reducible first | exact HB.out | apply below_alloc | apply pw_below_drewN | apply below_drew1 | refine below_set ?_ GE132.out) | exact HB.out)))); (case aL => have := LMc10.out; omega); intro v139 w15 ho hb hg hat; rw [← Ny138.out] at ho; have n0_ := Aside0.mk (blk_grown (g := gb132) (o := .cells #[.int .i64 a1_0, .int .i64 a1_1, .int .i64 a1_2] 25 (0, 0)) (by (with_reducible repeat (first | refine blk_drewN ?_ _ | refine blk_drew ?_ | refine blk_alloc ?_ _)); exact BK132.out) hg (Kd.R_away HO_5.out (fun _ hk => hk))); have n1_ := Aside0.mk (hb); have n2_ := Aside0.mk (ho); clear BK132; clear HB; clear HO_5; have BK132 := n0_; have HB := n1_; have HO140 := n2_; clear n0_ n1_ n2_; clear ho hb hg hat; have q16 : (x6_1 : Int) ≤ ((l0.length : Int) : Int) := of_decide_eq_true (by first | (with_reducible assumption) | assumption); obtain ⟨i016, hi016, _, hsz16, _⟩ := info_parts info25; have hroom16 : l0.length ≤ c0 := HC0.out; have hC16 : Kd.C k25 _ (some ad133) l0.length l0 := HR0.out; have q016 : (0 : Int) ≤ (x6_1 : Int) := of_decide_eq_true (by first | (with_reducible assumption) | assumption); have hcut16 := cut_from (P := Try.prog) 26 25 .i64 Try.underlying26 hi016 3 hsz16 (some ad133) l0.length c0 x6_1 q016 q16; have hr16 := Kd.C_drop (m := (x6_1 : Int).toNat) (c := c0) hC16 (by omega) hroom16; obtain ⟨A16, hA16⟩ : ∃ A1, A1 = (if c0 = (x6_1 : Int).toNat then (some ad133) else ((some ad133) : Option Addr).map (·.add ((x6_1 : Int).toNat * 3))) := ⟨_, rfl⟩; obtain ⟨c16, hc16⟩ : ∃ c1, c1 = c0 - (x6_1 : Int).toNat := ⟨_, rfl⟩; have hy16 : y141.length = l0.length - (x6_1 : Int).toNat := (by rw [Ny141.out, List.length_drop] <;> omega); rw [show (l0).drop (x6_1 : Int).toNat = y141 from Ny141.out.symm] at hr16; replace hr16 : Kd.C k25 _ A16 y141.length y141 := (by rw [hA16]; exact hr16); rw [← hy16, ← hA16, ← hc16] at hcut16; have HR144 := Aside0.mk hr16; have HC144 := Aside0.mk (show y141.length ≤ c16 from by rw [hy16, hc16]; exact Nat.sub_le_sub_right hroom16 _); clear hr16 hC16 hroom16 hi016 hsz16 hc16; have KY16 := Aside0.mk hy16; have KA16 := Aside0.mk hA16; clear hy16 hA16; replace q16 := eq_true q16) | ((with_reducible refine gate_builtin (b := .append) (xs := #[.tmp 34, .tmp 37]) rfl ?_); at_builtin; refine Kd.R_append_rows k25 (w0 := w) w.heap.size rfl (.tmp 34) (.tmp 37) 26 25 (.agg #[(.int .i64 0), (.int .i64 0), (.int .i64 0)]) 24 rfl Try.underlying26 info25 rfl (by decide) (by omega) v139 y138 y141 _ _ _ (fun k_ => k_ ≠ gb132) (fun _ => False) rfl rfl ?aO ?aR (fun _ _ h => h) (fun _ h => h.elim) ?aF ?aB ?aS ?aL ?_; (case aR => repeat (first | exact (Kd.C_below HR144.out HB.out) | (with_reducible refine Kd.C_alloc ?_ _) | (with_reducible refine Kd.C_drewN ?_ _) | (with_reducible refine Kd.C_drew ?_))); (case aB => exact (by repeat (first | (with_reducible first | exact HB.out | apply below_alloc | apply pw_below_drewN | apply below_drew1 | refine below_set ?_ GE132.out) | exact HB.out))); (case aF => exact (fun k_ hk => Kd.freshB (g := gb132) (o := .cells #[.int .i64 a1_0, .int .i64 a1_1, .int .i64 a1_2] 25 (0, 0)) (by (with_reducible repeat (first | refine blk_drewN ?_ _ | refine blk_drew ?_ | refine blk_alloc ?_ _)); exact BK132.out) k_ hk)); (case aO => exact (by (with_reducible repeat (first | apply Kd.R_alloc | apply Kd.R_drewN | apply Kd.R_drew)); exact HO140.out)); (case aS => exact (below_size (by repeat (first | (with_reducible first | exact HB.out | apply below_alloc | apply pw_below_drewN | apply below_drew1 | refine below_set ?_ GE132.out) | exact HB.out)))); (case aL => have := LMc13.out; omega); intro v146 w17 ho hb hg hat; rw [← Ny145.out] at ho; have n0_ := Aside0.mk (blk_grown (g := gb132) (o := .cells #[.int .i64 a1_0, .int .i64 a1_1, .int .i64 a1_2] 25 (0, 0)) (by (with_reducible repeat (first | refine blk_drewN ?_ _ | refine blk_drew ?_ | refine blk_alloc ?_ _)); exact BK132.out) hg (Kd.R_away HO140.out (fun _ hk => hk))); have n1_ := Aside0.mk (hb); have n2_ := Aside0.mk (ho); clear BK132; clear HB; clear HO140; have BK132 := n0_; have HB := n1_; have HO147 := n2_; clear n0_ n1_ n2_; clear ho hb hg hat)); try go_wp2_with (first | ((with_reducible refine gate_builtin (b := .append) (xs := #[.tmp 30, .tmp 32]) rfl ?_); at_builtin; refine Kd.R_append k25 (w0 := w) w.heap.size rfl (.tmp 30) (.tmp 32) 26 25 (.agg #[(.int .i64 0), (.int .i64 0), (.int .i64 0)]) 24 rfl Try.underlying26 info25 rfl (by decide) (by omega) u5 x5_1 (⟨a1_0, a1_1, a1_2⟩ : S25) [.int .i64 a1_0, .int .i64 a1_1, .int .i64 a1_2] (fun k_ => k_ ≠ gb132) (fun _ => False) rfl rfl ?aP (fun _ hk => hk.elim) ?aF ?aO ?aB ?aS ?aL ?_; (case aP => exact k25_mkM _ _ _ (⟨a1_0, a1_1, a1_2⟩ : S25)); (case aB => exact (by repeat (first | (with_reducible first | exact HB.out | apply below_alloc | apply pw_below_drewN | apply below_drew1 | refine below_set ?_ GE132.out) | exact HB.out))); (case aF => exact (fun k_ hk => Kd.freshB (g := gb132) (o := .cells #[.int .i64 a1_0, .int .i64 a1_1, .int .i64 a1_2] 25 (0, 0)) (by (with_reducible repeat (first | refine blk_drewN ?_ _ | refine blk_drew ?_ | refine blk_alloc ?_ _)); exact BK132.out) k_ hk)); (case aO => exact (by (with_reducible repeat (first | apply Kd.R_alloc | apply Kd.R_drewN | apply Kd.R_drew)); exact HO_5.out)); (case aS => exact (below_size (by repeat (first | (with_reducible first | exact HB.out | apply below_alloc | apply pw_below_drewN | apply below_drew1 | refine below_set ?_ GE132.out) | exact HB.out)))); (case aL => have := LMc10.out; omega); intro v139 w15 ho hb hg hat; rw [← Ny138.out] at ho; have n0_ := Aside0.mk (blk_grown (g := gb132) (o := .cells #[.int .i64 a1_0, .int .i64 a1_1, .int .i64 a1_2] 25 (0, 0)) (by (with_reducible repeat (first | refine blk_drewN ?_ _ | refine blk_drew ?_ | refine blk_alloc ?_ _)); exact BK132.out) hg (Kd.R_away HO_5.out (fun _ hk => hk))); have n1_ := Aside0.mk (hb); have n2_ := Aside0.mk (ho); clear BK132; clear HB; clear HO_5; have BK132 := n0_; have HB := n1_; have HO140 := n2_; clear n0_ n1_ n2_; clear ho hb hg hat; have q16 : (x6_1 : Int) ≤ ((l0.length : Int) : Int) := of_decide_eq_true (by first | (with_reducible assumption) | assumption); obtain ⟨i016, hi016, _, hsz16, _⟩ := info_parts info25; have hroom16 : l0.length ≤ c0 := HC0.out; have hC16 : Kd.C k25 _ (some ad133) l0.length l0 := HR0.out; have q016 : (0 : Int) ≤ (x6_1 : Int) := of_decide_eq_true (by first | (with_reducible assumption) | assumption); have hcut16 := cut_from (P := Try.prog) 26 25 .i64 Try.underlying26 hi016 3 hsz16 (some ad133) l0.length c0 x6_1 q016 q16; have hr16 := Kd.C_drop (m := (x6_1 : Int).toNat) (c := c0) hC16 (by omega) hroom16; obtain ⟨A16, hA16⟩ : ∃ A1, A1 = (if c0 = (x6_1 : Int).toNat then (some ad133) else ((some ad133) : Option Addr).map (·.add ((x6_1 : Int).toNat * 3))) := ⟨_, rfl⟩; obtain ⟨c16, hc16⟩ : ∃ c1, c1 = c0 - (x6_1 : Int).toNat := ⟨_, rfl⟩; have hy16 : y141.length = l0.length - (x6_1 : Int).toNat := (by rw [Ny141.out, List.length_drop] <;> omega); rw [show (l0).drop (x6_1 : Int).toNat = y141 from Ny141.out.symm] at hr16; replace hr16 : Kd.C k25 _ A16 y141.length y141 := (by rw [hA16]; exact hr16); rw [← hy16, ← hA16, ← hc16] at hcut16; have HR144 := Aside0.mk hr16; have HC144 := Aside0.mk (show y141.length ≤ c16 from by rw [hy16, hc16]; exact Nat.sub_le_sub_right hroom16 _); clear hr16 hC16 hroom16 hi016 hsz16 hc16; have KY16 := Aside0.mk hy16; have KA16 := Aside0.mk hA16; clear hy16 hA16; replace q16 := eq_true q16) | ((with_reducible refine gate_builtin (b := .append) (xs := #[.tmp 34, .tmp 37]) rfl ?_); at_builtin; refine Kd.R_append_rows k25 (w0 := w) w.heap.size rfl (.tmp 34) (.tmp 37) 26 25 (.agg #[(.int .i64 0), (.int .i64 0), (.int .i64 0)]) 24 rfl Try.underlying26 info25 rfl (by decide) (by omega) v139 y138 y141 _ _ _ (fun k_ => k_ ≠ gb132) (fun _ => False) rfl rfl ?aO ?aR (fun _ _ h => h) (fun _ h => h.elim) ?aF ?aB ?aS ?aL ?_; (case aR => repeat (first | exact (Kd.C_below HR144.out HB.out) | (with_reducible refine Kd.C_alloc ?_ _) | (with_reducible refine Kd.C_drewN ?_ _) | (with_reducible refine Kd.C_drew ?_))); (case aB => exact (by repeat (first | (with_reducible first | exact HB.out | apply below_alloc | apply pw_below_drewN | apply below_drew1 | refine below_set ?_ GE132.out) | exact HB.out))); (case aF => exact (fun k_ hk => Kd.freshB (g := gb132) (o := .cells #[.int .i64 a1_0, .int .i64 a1_1, .int .i64 a1_2] 25 (0, 0)) (by (with_reducible repeat (first | refine blk_drewN ?_ _ | refine blk_drew ?_ | refine blk_alloc ?_ _)); exact BK132.out) k_ hk)); (case aO => exact (by (with_reducible repeat (first | apply Kd.R_alloc | apply Kd.R_drewN | apply Kd.R_drew)); exact HO140.out)); (case aS => exact (below_size (by repeat (first | (with_reducible first | exact HB.out | apply below_alloc | apply pw_below_drewN | apply below_drew1 | refine below_set ?_ GE132.out) | exact HB.out)))); (case aL => have := LMc13.out; omega); intro v146 w17 ho hb hg hat; rw [← Ny145.out] at ho; have n0_ := Aside0.mk (blk_grown (g := gb132) (o := .cells #[.int .i64 a1_0, .int .i64 a1_1, .int .i64 a1_2] 25 (0, 0)) (by (with_reducible repeat (first | refine blk_drewN ?_ _ | refine blk_drew ?_ | refine blk_alloc ?_ _)); exact BK132.out) hg (Kd.R_away HO140.out (fun _ hk => hk))); have n1_ := Aside0.mk (hb); have n2_ := Aside0.mk (ho); clear BK132; clear HB; clear HO140; have BK132 := n0_; have HB := n1_; have HO147 := n2_; clear n0_ n1_ n2_; clear ho hb hg hat)))
                  go_ret
                  exact ⟨_, by first | rfl | (simp [errW_none, errW_some] <;> rfl) | (simp [*, errW_none, errW_some] <;> rfl), by (with_reducible repeat (first | apply Kd.R_alloc | apply Kd.R_drewN | apply Kd.R_drew)); exact Kd.R_mono HO147.out (fun _ hk => trivial), by repeat (first | (with_reducible first | exact HB.out | apply below_alloc | apply pw_below_drewN | apply below_drew1 | refine below_set ?_ GE132.out) | exact HB.out)⟩
                · rw [if_neg c13] at H
                  exact absurd H (by simp)
              · rw [if_neg c12] at H
                exact absurd H (by simp)
            · rw [if_neg c10] at H
              exact absurd H (by simp)
        · rw [if_neg c5] at H
          exact absurd H (by simp)
      · rw [if_neg c4] at H
        have c4b0 : decide (x6_1 < (l0.length : Int)) = false := decide_eq_false c4
        clear c4
        by_cases c18 : x5_1.length < 5864062014805
        · rw [if_pos c18] at H
          have LMc18 := Aside0.mk c18
          clear c18
          obtain ⟨y148, hy148⟩ : ∃ y_ : List (S25), y_ = (x5_1 ++ [(⟨a1_0, a1_1, a1_2⟩ : S25)]) := ⟨_, rfl⟩
          replace H : (if 0 ≤ x6_1 then (if x6_1 ≤ (l0.length : Int) then ((some (l0.drop (x6_1 : Int).toNat : List (S25))).bind fun y151 => (if y148.length + y151.length < 5864062014805 then (some (y148 ++ y151)) else (none))) else (none)) else (none)) = some r := by first | (rw [hy148]; with_reducible exact H) | (have H2_ := (Option.bind_some _ _).symm.trans H; rw [hy148]; with_reducible exact H2_) | (have H2_ := (Option.bind_some _ _).symm.trans H; with_reducible exact H2_) | with_reducible exact H | (rw [hy148]; exact H) | exact H
          have Ny148 := Aside0.mk hy148
          clear hy148
          by_cases c19 : 0 ≤ x6_1
          · rw [if_pos c19] at H
            have c19b0 := eq_true c19
            have c19b1 : decide (0 ≤ x6_1) = true := decide_eq_true c19
            clear c19
            by_cases c20 : x6_1 ≤ (l0.length : Int)
            · rw [if_pos c20] at H
              have c20b0 := eq_true c20
              have c20b1 : decide (x6_1 ≤ (l0.length : Int)) = true := decide_eq_true c20
              clear c20
              obtain ⟨y151, hy151⟩ : ∃ y_ : List (S25), y_ = (l0.drop (x6_1 : Int).toNat) := ⟨_, rfl⟩
              replace H : (if y148.length + y151.length < 5864062014805 then (some (y148 ++ y151)) else (none)) = some r := by first | (rw [hy151]; with_reducible exact H) | (have H2_ := (Option.bind_some _ _).symm.trans H; rw [hy151]; with_reducible exact H2_) | (have H2_ := (Option.bind_some _ _).symm.trans H; with_reducible exact H2_) | with_reducible exact H | (rw [hy151]; exact H) | exact H
              have Ny151 := Aside0.mk hy151
              clear hy151
              by_cases c21 : y148.length + y151.length < 5864062014805
              · rw [if_pos c21] at H
                have LMc21 := Aside0.mk c21
                clear c21
                obtain ⟨y155, hy155⟩ : ∃ y_ : List (S25), y_ = (y148 ++ y151) := ⟨_, rfl⟩
                replace H : (some y155) = some r := by first | (rw [hy155]; with_reducible exact H) | (have H2_ := (Option.bind_some _ _).symm.trans H; rw [hy155]; with_reducible exact H2_) | (have H2_ := (Option.bind_some _ _).symm.trans H; with_reducible exact H2_) | with_reducible exact H | (rw [hy155]; exact H) | exact H
                have Ny155 := Aside0.mk hy155
                clear hy155
                obtain rfl := Option.some.inj H
                have hcz22_0 : wr.cell? ⟨gb132, 0, none⟩ = some (.int .i64 a1_0) := (blk_cell BK132.out 0).trans rfl
                have hcz22_1 : wr.cell? ⟨gb132, 1, none⟩ = some (.int .i64 a1_1) := (blk_cell BK132.out 1).trans rfl
                have hcz22_2 : wr.cell? ⟨gb132, 2, none⟩ = some (.int .i64 a1_2) := (blk_cell BK132.out 2).trans rfl
                have hfz22_0 := blk_frozen BK132.out 0
                have hfz22_1 := blk_frozen BK132.out 1
                have hfz22_2 := blk_frozen BK132.out 2
                go_wp2_with (first | ((with_reducible refine gate_builtin (b := .append) (xs := #[.tmp 30, .tmp 32]) rfl ?_); at_builtin; refine Kd.R_append k25 (w0 := w) w.heap.size rfl (.tmp 30) (.tmp 32) 26 25 (.agg #[(.int .i64 0), (.int .i64 0), (.int .i64 0)]) 24 rfl Try.underlying26 info25 rfl (by decide) (by omega) u5 x5_1 (⟨a1_0, a1_1, a1_2⟩ : S25) [.int .i64 a1_0, .int .i64 a1_1, .int .i64 a1_2] (fun k_ => k_ ≠ gb132) (fun _ => False) rfl rfl ?aP (fun _ hk => hk.elim) ?aF ?aO ?aB ?aS ?aL ?_; (case aP => exact k25_mkM _ _ _ (⟨a1_0, a1_1, a1_2⟩ : S25)); (case aB => exact (by repeat (first | (with_reducible first | exact HB.out | apply below_alloc | apply pw_below_drewN | apply below_drew1 | refine below_set ?_ GE132.out) | exact HB.out))); (case aF => exact (fun k_ hk => Kd.freshB (g := gb132) (o := .cells #[.int .i64 a1_0, .int .i64 a1_1, .int .i64 a1_2] 25 (0, 0)) (by (with_reducible repeat (first | refine blk_drewN ?_ _ | refine blk_drew ?_ | refine blk_alloc ?_ _)); exact BK132.out) k_ hk)); (case aO => exact (by (with_reducible repeat (first | apply Kd.R_alloc | apply Kd.R_drewN | apply Kd.R_drew)); exact HO_5.out)); (case aS => exact (below_size (by repeat (first | (with_reducible first | exact HB.out | apply below_alloc | apply pw_below_drewN | apply below_drew1 | refine below_set ?_ GE132.out) | exact HB.out)))); (case aL => have := LMc18.out; omega); intro v149 w23 ho hb hg hat; rw [← Ny148.out] at ho; have n0_ := Aside0.mk (blk_grown (g := gb132) (o := .cells #[.int .i64 a1_0, .int .i64 a1_1, .int .i64 a1_2] 25 (0, 0)) (by (with_reducible repeat (first | refine blk_drewN ?_ _ | refine blk_drew ?_ | refine blk_alloc ?_ _)); exact BK132.out) hg (Kd.R_away HO_5.out (fun _ hk => hk))); have n1_ := Aside0.mk (hb); have n2_ := Aside0.mk (ho); clear BK132; clear HB; clear HO_5; have BK132 := n0_; have HB := n1_; have HO150 := n2_; clear n0_ n1_ n2_; clear ho hb hg hat; have q24 : (x6_1 : Int) ≤ ((l0.length : Int) : Int) := of_decide_eq_true (by first | (with_reducible assumption) | assumption); obtain ⟨i024, hi024, _, hsz24, _⟩ := info_parts info25; have hroom24 : l0.length ≤ c0 := HC0.out; have hC24 : Kd.C k25 _ A0 l0.length l0 := HR0.out; have q024 : (0 : Int) ≤ (x6_1 : Int) := of_decide_eq_true (by first | (with_reducible assumption) | assumption); have hcut24 := cut_from (P := Try.prog) 26 25 .i64 Try.underlying26 hi024 3 hsz24 A0 l0.length c0 x6_1 q024 q24; have hr24 := Kd.C_drop (m := (x6_1 : Int).toNat) (c := c0) hC24 (by omega) hroom24; obtain ⟨A24, hA24⟩ : ∃ A1, A1 = (if c0 = (x6_1 : Int).toNat then A0 else (A0 : Option Addr).map (·.add ((x6_1 : Int).toNat * 3))) := ⟨_, rfl⟩; obtain ⟨c24, hc24⟩ : ∃ c1, c1 = c0 - (x6_1 : Int).toNat := ⟨_, rfl⟩; have hy24 : y151.length = l0.length - (x6_1 : Int).toNat := (by rw [Ny151.out, List.length_drop] <;> omega); rw [show (l0).drop (x6_1 : Int).toNat = y151 from Ny151.out.symm] at hr24; replace hr24 : Kd.C k25 _ A24 y151.length y151 := (by rw [hA24]; exact hr24); rw [← hy24, ← hA24, ← hc24] at hcut24; have HR154 := Aside0.mk hr24; have HC154 := Aside0.mk (show y151.length ≤ c24 from by rw [hy24, hc24]; exact Nat.sub_le_sub_right hroom24 _); clear hr24 hC24 hroom24 hi024 hsz24 hc24; have KY24 := Aside0.mk hy24; have KA24 := Aside0.mk hA24; clear hy24 hA24; replace q24 := eq_true q24) | ((with_reducible refine gate_builtin (b := .append) (xs := #[.tmp 34, .tmp 37]) rfl ?_); at_builtin; refine Kd.R_append_rows k25 (w0 := w) w.heap.size rfl (.tmp 34) (.tmp 37) 26 25 (.agg #[(.int .i64 0), (.int .i64 0), (.int .i64 0)]) 24 rfl Try.underlying26 info25 rfl (by decide) (by omega) v149 y148 y151 _ _ _ (fun k_ => k_ ≠ gb132) (fun _ => False) rfl rfl ?aO ?aR (fun _ _ h => h) (fun _ h => h.elim) ?aF ?aB ?aS ?aL ?_; (case aR => repeat (first | exact (Kd.C_below HR154.out HB.out) | (with_reducible refine Kd.C_alloc ?_ _) | (with_reducible refine Kd.C_drewN ?_ _) | (with_reducible refine Kd.C_drew ?_))); (case aB => exact (by repeat (first | (with_reducible first | exact HB.out | apply below_alloc | apply pw_below_drewN | apply below_drew1 | refine below_set ?_ GE132.out) | exact HB.out))); (case aF => exact (fun k_ hk => Kd.freshB (g := gb132) (o := .cells #[.int .i64 a1_0, .int .i64 a1_1, .int .i64 a1_2] 25 (0, 0)) (by (with_reducible repeat (first | refine blk_drewN ?_ _ | refine blk_drew ?_ | refine blk_alloc ?_ _)); exact BK132.out) k_ hk)); (case aO => exact (by (with_reducible repeat (first | apply Kd.R_alloc | apply Kd.R_drewN | apply Kd.R_drew)); exact HO150.out)); (case aS => exact (below_size (by repeat (first | (with_reducible first | exact HB.out | apply below_alloc | apply pw_below_drewN | apply below_drew1 | refine below_set ?_ GE132.out) | exact HB.out)))); (case aL => have := LMc21.out; omega); intro v156 w25 ho hb hg hat; rw [← Ny155.out] at ho; have n0_ := Aside0.mk (blk_grown (g := gb132) (o := .cells #[.int .i64 a1_0, .int .i64 a1_1, .int .i64 a1_2] 25 (0, 0)) (by (with_reducible repeat (first | refine blk_drewN ?_ _ | refine blk_drew ?_ | refine blk_alloc ?_ _)); exact BK132.out) hg (Kd.R_away HO150.out (fun _ hk => hk))); have n1_ := Aside0.mk (hb); have n2_ := Aside0.mk (ho); clear BK132; clear HB; clear HO150; have BK132 := n0_; have HB := n1_; have HO157 := n2_; clear n0_ n1_ n2_; clear ho hb hg hat))
                repeat (go_quiet (first | ((with_reducible refine gate_builtin (b := .append) (xs := #[.tmp 30, .tmp 32]) rfl ?_); at_builtin; refine Kd.R_append k25 (w0 := w) w.heap.size rfl (.tmp 30) (.tmp 32) 26 25 (.agg #[(.int .i64 0), (.int .i64 0), (.int .i64 0)]) 24 rfl Try.underlying26 info25 rfl (by decide) (by omega) u5 x5_1 (⟨a1_0, a1_1, a1_2⟩ : S25) [.int .i64 a1_0, .int .i64 a1_1, .int .i64 a1_2] (fun k_ => k_ ≠ gb132) (fun _ => False) rfl rfl ?aP (fun _ hk => hk.elim) ?aF ?aO ?aB ?aS ?aL ?_; (case aP => exact k25_mkM _ _ _ (⟨a1_0, a1_1, a1_2⟩ : S25)); (case aB => exact (by repeat (first | (with_reducible first | exact HB.out | apply below_alloc | apply pw_below_drewN | apply below_drew1 | refine below_set ?_ GE132.out) | exact HB.out))); (case aF => exact (fun k_ hk => Kd.freshB (g := gb132) (o := .cells #[.int .i64 a1_0, .int .i64 a1_1, .int .i64 a1_2] 25 (0, 0)) (by (with_reducible repeat (first | refine blk_drewN ?_ _ | refine blk_drew ?_ | refine blk_alloc ?_ _)); exact BK132.out) k_ hk)); (case aO => exact (by (with_reducible repeat (first | apply Kd.R_alloc | apply Kd.R_drewN | apply Kd.R_drew)); exact HO_5.out)); (case aS => exact (below_size (by repeat (first | (with_reducible first | exact HB.out | apply below_alloc | apply pw_below_drewN | apply below_drew1 | refine below_set ?_ GE132.out) | exact HB.out)))); (case aL => have := LMc18.out; omega); intro v149 w23 ho hb hg hat; rw [← Ny148.out] at ho; have n0_ := Aside0.mk (blk_grown (g := gb132) (o := .cells #[.int .i64 a1_0, .int .i64 a1_1, .int .i64 a1_2] 25 (0, 0)) (by (with_reducible repeat (first | refine blk_drewN ?_ _ | refine blk_drew ?_ | refine blk_alloc ?_ _)); exact BK132.out) hg (Kd.R_away HO_5.out (fun _ hk => hk))); have n1_ := Aside0.mk (hb); have n2_ := Aside0.mk (ho); clear BK132; clear HB; clear HO_5; have BK132 := n0_; have HB := n1_; have HO150 := n2_; clear n0_ n1_ n2_; clear ho hb hg hat; have q24 : (x6_1 : Int) ≤ ((l0.length : Int) : Int) := of_decide_eq_true (by first | (with_reducible assumption) | assumption); obtain ⟨i024, hi024, _, hsz24, _⟩ := info_parts info25; have hroom24 : l0.length ≤ c0 := HC0.out; have hC24 : Kd.C k25 _ A0 l0.length l0 := HR0.out; have q024 : (0 : Int) ≤ (x6_1 : Int) := of_decide_eq_true (by first | (with_reducible assumption) | assumption); have hcut24 := cut_from (P := Try.prog) 26 25 .i64 Try.underlying26 hi024 3 hsz24 A0 l0.length c0 x6_1 q024 q24; have hr24 := Kd.C_drop (m := (x6_1 : Int).toNat) (c := c0) hC24 (by omega) hroom24; obtain ⟨A24, hA24⟩ : ∃ A1, A1 = (if c0 = (x6_1 : Int).toNat then A0 else (A0 : Option Addr).map (·.add ((x6_1 : Int).toNat * 3))) := ⟨_, rfl⟩; obtain ⟨c24, hc24⟩ : ∃ c1, c1 = c0 - (x6_1 : Int).toNat := ⟨_, rfl⟩; have hy24 : y151.length = l0.length - (x6_1 : Int).toNat := (by rw [Ny151.out, List.length_drop] <;> omega); rw [show (l0).drop (x6_1 : Int).toNat = y151 from Ny151.out.symm] at hr24; replace hr24 : Kd.C k25 _ A24 y151.length y151 := (by rw [hA24]; exact hr24); rw [← hy24, ← hA24, ← hc24] at hcut24; have HR154 := Aside0.mk hr24; have HC154 := Aside0.mk (show y151.length ≤ c24 from by rw [hy24, hc24]; exact Nat.sub_le_sub_right hroom24 _); clear hr24 hC24 hroom24 hi024 hsz24 hc24; have KY24 := Aside0.mk hy24; have KA24 := Aside0.mk hA24; clear hy24 hA24; replace q24 := eq_true q24) | ((with_reducible refine gate_builtin (b := .append) (xs := #[.tmp 34, .tmp 37]) rfl ?_); at_builtin; refine Kd.R_append_rows k25 (w0 := w) w.heap.size rfl (.tmp 34) (.tmp 37) 26 25 (.agg #[(.int .i64 0), (.int .i64 0), (.int .i64 0)]) 24 rfl Try.underlying26 info25 rfl (by decide) (by omega) v149 y148 y151 _ _ _ (fun k_ => k_ ≠ gb132) (fun _ => False) rfl rfl ?aO ?aR (fun _ _ h => h) (fun _ h => h.elim) ?aF ?aB ?aS ?aL ?_; (case aR => repeat (first | exact (Kd.C_below HR154.out HB.out) | (with_reducible refine Kd.C_alloc ?_ _) | (with_reducible refine Kd.C_drewN ?_ _) | (with_reducible refine Kd.C_drew ?_))); (case aB => exact (by repeat (first | (with_reducible first | exact HB.out | apply below_alloc | apply pw_below_drewN | apply below_drew1 | refine below_set ?_ GE132.out) | exact HB.out))); (case aF => exact (fun k_ hk => Kd.freshB (g := gb132) (o := .cells #[.int .i64 a1_0, .int .i64 a1_1, .int .i64 a1_2] 25 (0, 0)) (by (with_reducible repeat (first | refine blk_drewN ?_ _ | refine blk_drew ?_ | refine blk_alloc ?_ _)); exact BK132.out) k_ hk)); (case aO => exact (by (with_reducible repeat (first | apply Kd.R_alloc | apply Kd.R_drewN | apply Kd.R_drew)); exact HO150.out)); (case aS => exact (below_size (by repeat (first | (with_reducible first | exact HB.out | apply below_alloc | apply pw_below_drewN | apply below_drew1 | refine below_set ?_ GE132.out) | exact HB.out)))); (case aL => have := LMc21.out; omega); intro v156 w25 ho hb hg hat; rw [← Ny155.out] at ho; have n0_ := Aside0.mk (blk_grown (g := gb132) (o := .cells #[.int .i64 a1_0, .int .i64 a1_1, .int .i64 a1_2] 25 (0, 0)) (by (with_reducible repeat (first | refine blk_drewN ?_ _ | refine blk_drew ?_ | refine blk_alloc ?_ _)); exact BK132.out) hg (Kd.R_away HO150.out (fun _ hk => hk))); have n1_ := Aside0.mk (hb); have n2_ := Aside0.mk (ho); clear BK132; clear HB; clear HO150; have BK132 := n0_; have HB := n1_; have HO157 := n2_; clear n0_ n1_ n2_; clear ho hb hg hat)); try go_wp2_with (first | ((with_reducible refine gate_builtin (b := .append) (xs := #[.tmp 30, .tmp 32]) rfl ?_); at_builtin; refine Kd.R_append k25 (w0 := w) w.heap.size rfl (.tmp 30) (.tmp 32) 26 25 (.agg #[(.int .i64 0), (.int .i64 0), (.int .i64 0)]) 24 rfl Try.underlying26 info25 rfl (by decide) (by omega) u5 x5_1 (⟨a1_0, a1_1, a1_2⟩ : S25) [.int .i64 a1_0, .int .i64 a1_1, .int .i64 a1_2] (fun k_ => k_ ≠ gb132) (fun _ => False) rfl rfl ?aP (fun _ hk => hk.elim) ?aF ?aO ?aB ?aS ?aL ?_; (case aP => exact k25_mkM _ _ _ (⟨a1_0, a1_1, a1_2⟩ : S25)); (case aB => exact (by repeat (first | (with_reducible first | exact HB.out | apply below_alloc | apply pw_below_drewN | apply below_drew1 | refine below_set ?_ GE132.out) | exact HB.out))); (case aF => exact (fun k_ hk => Kd.freshB (g := gb132) (o := .cells #[.int .i64 a1_0, .int .i64 a1_1, .int .i64 a1_2] 25 (0, 0)) (by (with_reducible repeat (first | refine blk_drewN ?_ _ | refine blk_drew ?_ | refine blk_alloc ?_ _)); exact BK132.out) k_ hk)); (case aO => exact (by (with_reducible repeat (first | apply Kd.R_alloc | apply Kd.R_drewN | apply Kd.R_drew)); exact HO_5.out)); (case aS => exact (below_size (by repeat (first | (with_reducible first | exact HB.out | apply below_alloc | apply pw_below_drewN | apply below_drew1 | refine below_set ?_ GE132.out) | exact HB.out)))); (case aL => have := LMc18.out; omega); intro v149 w23 ho hb hg hat; rw [← Ny148.out] at ho; have n0_ := Aside0.mk (blk_grown (g := gb132) (o := .cells #[.int .i64 a1_0, .int .i64 a1_1, .int .i64 a1_2] 25 (0, 0)) (by (with_reducible repeat (first | refine blk_drewN ?_ _ | refine blk_drew ?_ | refine blk_alloc ?_ _)); exact BK132.out) hg (Kd.R_away HO_5.out (fun _ hk => hk))); have n1_ := Aside0.mk (hb); have n2_ := Aside0.mk (ho); clear BK132; clear HB; clear HO_5; have BK132 := n0_; have HB := n1_; have HO150 := n2_; clear n0_ n1_ n2_; clear ho hb hg hat; have q24 : (x6_1 : Int) ≤ ((l0.length : Int) : Int) := of_decide_eq_true (by first | (with_reducible assumption) | assumption); obtain ⟨i024, hi024, _, hsz24, _⟩ := info_parts info25; have hroom24 : l0.length ≤ c0 := HC0.out; have hC24 : Kd.C k25 _ A0 l0.length l0 := HR0.out; have q024 : (0 : Int) ≤ (x6_1 : Int) := of_decide_eq_true (by first | (with_reducible assumption) | assumption); have hcut24 := cut_from (P := Try.prog) 26 25 .i64 Try.underlying26 hi024 3 hsz24 A0 l0.length c0 x6_1 q024 q24; have hr24 := Kd.C_drop (m := (x6_1 : Int).toNat) (c := c0) hC24 (by omega) hroom24; obtain ⟨A24, hA24⟩ : ∃ A1, A1 = (if c0 = (x6_1 : Int).toNat then A0 else (A0 : Option Addr).map (·.add ((x6_1 : Int).toNat * 3))) := ⟨_, rfl⟩; obtain ⟨c24, hc24⟩ : ∃ c1, c1 = c0 - (x6_1 : Int).toNat := ⟨_, rfl⟩; have hy24 : y151.length = l0.length - (x6_1 : Int).toNat := (by rw [Ny151.out, List.length_drop] <;> omega); rw [show (l0).drop (x6_1 : Int).toNat = y151 from Ny151.out.symm] at hr24; replace hr24 : Kd.C k25 _ A24 y151.length y151 := (by rw [hA24]; exact hr24); rw [← hy24, ← hA24, ← hc24] at hcut24; have HR154 := Aside0.mk hr24; have HC154 := Aside0.mk (show y151.length ≤ c24 from by rw [hy24, hc24]; exact Nat.sub_le_sub_right hroom24 _); clear hr24 hC24 hroom24 hi024 hsz24 hc24; have KY24 := Aside0.mk hy24; have KA24 := Aside0.mk hA24; clear hy24 hA24; replace q24 := eq_true q24) | ((with_reducible refine gate_builtin (b := .append) (xs := #[.tmp 34, .tmp 37]) rfl ?_); at_builtin; refine Kd.R_append_rows k25 (w0 := w) w.heap.size rfl (.tmp 34) (.tmp 37) 26 25 (.agg #[(.int .i64 0), (.int .i64 0), (.int .i64 0)]) 24 rfl Try.underlying26 info25 rfl (by decide) (by omega) v149 y148 y151 _ _ _ (fun k_ => k_ ≠ gb132) (fun _ => False) rfl rfl ?aO ?aR (fun _ _ h => h) (fun _ h => h.elim) ?aF ?aB ?aS ?aL ?_; (case aR => repeat (first | exact (Kd.C_below HR154.out HB.out) | (with_reducible refine Kd.C_alloc ?_ _) | (with_reducible refine Kd.C_drewN ?_ _) | (with_reducible refine Kd.C_drew ?_))); (case aB => exact (by repeat (first | (with_reducible first | exact HB.out | apply below_alloc | apply pw_below_drewN | apply below_drew1 | refine below_set ?_ GE132.out) | exact HB.out))); (case aF => exact (fun k_ hk => Kd.freshB (g := gb132) (o := .cells #[.int .i64 a1_0, .int .i64 a1_1, .int .i64 a1_2] 25 (0, 0)) (by (with_reducible repeat (first | refine blk_drewN ?_ _ | refine blk_drew ?_ | refine blk_alloc ?_ _)); exact BK132.out) k_ hk)); (case aO => exact (by (with_reducible repeat (first | apply Kd.R_alloc | apply Kd.R_drewN | apply Kd.R_drew)); exact HO150.out)); (case aS => exact (below_size (by repeat (first | (with_reducible first | exact HB.out | apply below_alloc | apply pw_below_drewN | apply below_drew1 | refine below_set ?_ GE132.out) | exact HB.out)))); (case aL => have := LMc21.out; omega); intro v156 w25 ho hb hg hat; rw [← Ny155.out] at ho; have n0_ := Aside0.mk (blk_grown (g := gb132) (o := .cells #[.int .i64 a1_0, .int .i64 a1_1, .int .i64 a1_2] 25 (0, 0)) (by (with_reducible repeat (first | refine blk_drewN ?_ _ | refine blk_drew ?_ | refine blk_alloc ?_ _)); exact BK132.out) hg (Kd.R_away HO150.out (fun _ hk => hk))); have n1_ := Aside0.mk (hb); have n2_ := Aside0.mk (ho); clear BK132; clear HB; clear HO150; have BK132 := n0_; have HB := n1_; have HO157 := n2_; clear n0_ n1_ n2_; clear ho hb hg hat)))
                go_ret
                exact ⟨_, by first | rfl | (simp [errW_none, errW_some] <;> rfl) | (simp [*, errW_none, errW_some] <;> rfl), by (with_reducible repeat (first | apply Kd.R_alloc | apply Kd.R_drewN | apply Kd.R_drew)); exact Kd.R_mono HO157.out (fun _ hk => trivial), by repeat (first | (with_reducible first | exact HB.out | apply below_alloc | apply pw_below_drewN | apply below_drew1 | refine below_set ?_ GE132.out) | exact HB.out)⟩
              · rw [if_neg c21] at H
                exact absurd H (by simp)
            · rw [if_neg c20] at H
              exact absurd H (by simp)
          · rw [if_neg c19] at H
            exact absurd H (by simp)
        · rw [if_neg c18] at H
          exact absurd H (by simp)
def lighterref08_Drop.f (k : Nat) (l0 : List (S25)) (a1 : Int) : Option ((List (S25)) × Int) := (lighterref08_Find.f k l0 a1).bind fun t166 => (if t166 < 0 then (some (l0, 15)) else (if 0 ≤ t166 then (if t166 ≤ (l0.length : Int) then ((some (l0.take (t166 : Int).toNat : List (S25))).bind fun y167 => (if ([] : List (S25)).length + y167.length < 5864062014805 then ((some (([] : List (S25)) ++ y167 : List (S25))).bind fun y171 => (if 0 ≤ (wrap64 (t166 + 1)) then (if (wrap64 (t166 + 1)) ≤ (l0.length : Int) then ((some (l0.drop ((wrap64 (t166 + 1)) : Int).toNat : List (S25))).bind fun y174 => (if y171.length + y174.length < 5864062014805 then (some ((y171 ++ y174), 0)) else (none))) else (none)) else (none))) else (none))) else (none)) else (none)))
set_option maxHeartbeats 8000000 in
set_option maxRecDepth 100000 in
theorem lighterref08_Drop.calls (k : Nat) (P0_ : Nat → Prop) (u9000_ : Value) (l0 : List (S25)) (a1 : Int) (r1 : List (S25)) (r2 : Int) (w0 w : World) (hB : Below w0.heap.size w0 w) (ho0 : Kd.R k25 25 w w0.heap.size P0_ u9000_ l0) (h : lighterref08_Drop.f k l0 a1 = some (r1, r2)) :
    Calls Try.prog 37 #[u9000_, .int .i64 a1] w fun e w' => ∃ v0_ : Value, e = .returned (.tuple #[v0_, .int .i64 r2]) ∧ Kd.R k25 25 w' w0.heap.size (fun k_ => (P0_ k_ ∨ w.heap.size ≤ k_)) v0_ r1 ∧ Below w0.heap.size w0 w' ∧ Kept w w' (fun k_ => P0_ k_) := by
  have HO0 := Aside0.mk (show Kd.R k25 25 w w0.heap.size (fun k_ => (P0_ k_ ∨ w.heap.size ≤ k_)) u9000_ l0 from Kd.R_mono ho0 (fun k_ hk => (.inl hk)))
  have HK := Aside0.mk (Kept.refl w (fun k_ => P0_ k_))
  have HW0 := Aside0.mk hB.size
  have HB := Aside0.mk hB
  clear hB
  have H : ((lighterref08_Find.f k l0 a1).bind fun t166 => (if t166 < 0 then (some (l0, 15)) else (if 0 ≤ t166 then (if t166 ≤ (l0.length : Int) then ((some (l0.take (t166 : Int).toNat : List (S25))).bind fun y167 => (if ([] : List (S25)).length + y167.length < 5864062014805 then ((some (([] : List (S25)) ++ y167 : List (S25))).bind fun y171 => (if 0 ≤ (wrap64 (t166 + 1)) then (if (wrap64 (t166 + 1)) ≤ (l0.length : Int) then ((some (l0.drop ((wrap64 (t166 + 1)) : Int).toNat : List (S25))).bind fun y174 => (if y171.length + y174.length < 5864062014805 then (some ((y171 ++ y174), 0)) else (none))) else (none)) else (none))) else (none))) else (none)) else (none)))) = some (r1, r2) := h
  clear h
  replace H := Option.bind_eq_some_iff.mp H
  obtain ⟨t166, A30, H⟩ := H
  replace H : (if t166 < 0 then (some (l0, 15)) else (if 0 ≤ t166 then (if t166 ≤ (l0.length : Int) then ((some (l0.take (t166 : Int).toNat : List (S25))).bind fun y167 => (if ([] : List (S25)).length + y167.length < 5864062014805 then ((some (([] : List (S25)) ++ y167 : List (S25))).bind fun y171 => (if 0 ≤ (wrap64 (t166 + 1)) then (if (wrap64 (t166 + 1)) ≤ (l0.length : Int) then ((some (l0.drop ((wrap64 (t166 + 1)) : Int).toNat : List (S25))).bind fun y174 => (if y171.length + y174.length < 5864062014805 then (some ((y171 ++ y174), 0)) else (none))) else (none)) else (none))) else (none))) else (none)) else (none))) = some (r1, r2) := H
  have A3 := Aside0.mk A30
  clear A30
  by_cases c4 : t166 < 0
  · rw [if_pos c4] at H
    have c4b0 : decide (t166 < 0) = true := decide_eq_true c4
    clear c4
    simp only [Option.some.injEq, Prod.mk.injEq] at H
    obtain ⟨rfl, rfl⟩ := H
    obtain ⟨Ao5, co5, eo5⟩ := Kd.R_slice HO0.out
    subst eo5
    go_enter Try.func37, Try.ntmps37
    go_wp2_with (first | ((with_reducible refine gate_callee (f := 34) rfl ?_); refine goesL_ (some 10) rfl rfl Try.func34 (by kernel_rfl) rfl #[.slice Ao5 l0.length co5, .int .i64 a1] rfl (by (try simp only [List.map_toArray, List.map_cons, List.map_nil]); first | done | rfl | (simp only [List.length_drop, List.length_take]; rfl)) ?_; (with_reducible refine (lighterref08_Find.calls k _ _ l0 a1 t166 _ ?side1 ?side2 A3.out).mono ?_); (case side1 => repeat (first | exact (Kd.R_reads' HO0.out).2.2 | (with_reducible refine Kd.C_alloc ?_ _) | (with_reducible refine Kd.C_drewN ?_ _) | (with_reducible refine Kd.C_drew ?_))); (case side2 => exact (Kd.R_reads' HO0.out).2.1); rintro e w' ⟨rfl, ⟨nd, rfl⟩⟩; refine ⟨_, rfl, ?_⟩))
    go_ret2
    exact ⟨_, by first | rfl | (simp [errW_none, errW_some] <;> rfl) | (simp [*, errW_none, errW_some] <;> rfl), by (with_reducible repeat (first | apply Kd.R_alloc | apply Kd.R_drewN | apply Kd.R_drew)); exact HO0.out, by repeat (first | (with_reducible first | exact HB.out | apply below_alloc | apply pw_below_drewN | apply below_drew1) | exact HB.out), by repeat (first | (with_reducible first | exact HK.out | apply Kept.alloc | apply Kept.drewN | apply Kept.drew) | exact HK.out)⟩
  · rw [if_neg c4] at H
    have c4b0 : decide (t166 < 0) = false := decide_eq_false c4
    clear c4
    by_cases c6 : 0 ≤ t166
    · rw [if_pos c6] at H
      have c6b0 := eq_true c6
      have c6b1 : decide (0 ≤ t166) = true := decide_eq_true c6
      clear c6
      by_cases c7 : t166 ≤ (l0.length : Int)
      · rw [if_pos c7] at H
        have c7b0 := eq_true c7
        have c7b1 : decide (t166 ≤ (l0.length : Int)) = true := decide_eq_true c7
        clear c7
        obtain ⟨y167, hy167⟩ : ∃ y_ : List (S25), y_ = (l0.take (t166 : Int).toNat) := ⟨_, rfl⟩
        replace H : (if ([] : List (S25)).length + y167.length < 5864062014805 then ((some (([] : List (S25)) ++ y167 : List (S25))).bind fun y171 => (if 0 ≤ (wrap64 (t166 + 1)) then (if (wrap64 (t166 + 1)) ≤ (l0.length : Int) then ((some (l0.drop ((wrap64 (t166 + 1)) : Int).toNat : List (S25))).bind fun y174 => (if y171.length + y174.length < 5864062014805 then (some ((y171 ++ y174), 0)) else (none))) else (none)) else (none))) else (none)) = some (r1, r2) := by first | (rw [hy167]; with_reducible exact H) | (have H2_ := (Option.bind_some _ _).symm.trans H; rw [hy167]; with_reducible exact H2_) | (have H2_ := (Option.bind_some _ _).symm.trans H; with_reducible exact H2_) | with_reducible exact H | (rw [hy167]; exact H) | exact H
        have Ny167 := Aside0.mk hy167
        clear hy167
        by_cases c8 : ([] : List (S25)).length + y167.length < 5864062014805
        · rw [if_pos c8] at H
          have LMc8 := Aside0.mk c8
          clear c8
          obtain ⟨y171, hy171⟩ : ∃ y_ : List (S25), y_ = (([] : List (S25)) ++ y167) := ⟨_, rfl⟩
          replace H : (if 0 ≤ (wrap64 (t166 + 1)) then (if (wrap64 (t166 + 1)) ≤ (l0.length : Int) then ((some (l0.drop ((wrap64 (t166 + 1)) : Int).toNat : List (S25))).bind fun y174 => (if y171.length + y174.length < 5864062014805 then (some ((y171 ++ y174), 0)) else (none))) else (none)) else (none)) = some (r1, r2) := by first | (rw [hy171]; with_reducible exact H) | (have H2_ := (Option.bind_some _ _).symm.trans H; rw [hy171]; with_reducible exact H2_) | (have H2_ := (Option.bind_some _ _).symm.trans H; with_reducible exact H2_) | with_reducible exact H | (rw [hy171]; exact H) | exact H
          have Ny171 := Aside0.mk hy171
          clear hy171
          obtain ⟨ji9, hji9⟩ : ∃ j_ : Int, (wrap64 (t166 + 1)) = j_ := ⟨_, rfl⟩
          replace H : (if 0 ≤ (ji9) then (if (ji9) ≤ (l0.length : Int) then ((some (l0.drop ((ji9) : Int).toNat : List (S25))).bind fun y174 => (if y171.length + y174.length < 5864062014805 then (some ((y171 ++ y174), 0)) else (none))) else (none)) else (none)) = some (r1, r2) := by first | (rw [hji9] at H; exact H) | (simp only [hji9] at H ⊢; exact H)
          (try rw [hji9] at A3)
          have hji9w : (IntKind.i64.wrap (t166 + 1)) = ji9 := (i64_w _).trans hji9
          by_cases c10 : 0 ≤ (ji9)
          · rw [if_pos c10] at H
            have c10b0 := eq_true c10
            have c10b1 : decide (0 ≤ (ji9)) = true := decide_eq_true c10
            clear c10
            by_cases c11 : (ji9) ≤ (l0.length : Int)
            · rw [if_pos c11] at H
              have c11b0 := eq_true c11
              have c11b1 : decide ((ji9) ≤ (l0.length : Int)) = true := decide_eq_true c11
              clear c11
              obtain ⟨y174, hy174⟩ : ∃ y_ : List (S25), y_ = (l0.drop ((ji9) : Int).toNat) := ⟨_, rfl⟩
              replace H : (if y171.length + y174.length < 5864062014805 then (some ((y171 ++ y174), 0)) else (none)) = some (r1, r2) := by first | (rw [hy174]; with_reducible exact H) | (have H2_ := (Option.bind_some _ _).symm.trans H; rw [hy174]; with_reducible exact H2_) | (have H2_ := (Option.bind_some _ _).symm.trans H; with_reducible exact H2_) | with_reducible exact H | (rw [hy174]; exact H) | exact H
              have Ny174 := Aside0.mk hy174
              clear hy174
              by_cases c12 : y171.length + y174.length < 5864062014805
              · rw [if_pos c12] at H
                have LMc12 := Aside0.mk c12
                clear c12
                obtain ⟨y178, hy178⟩ : ∃ y_ : List (S25), y_ = (y171 ++ y174) := ⟨_, rfl⟩
                replace H : (some (y178, 0)) = some (r1, r2) := by first | (rw [hy178]; with_reducible exact H) | (have H2_ := (Option.bind_some _ _).symm.trans H; rw [hy178]; with_reducible exact H2_) | (have H2_ := (Option.bind_some _ _).symm.trans H; with_reducible exact H2_) | with_reducible exact H | (rw [hy178]; exact H) | exact H
                have Ny178 := Aside0.mk hy178
                clear hy178
                simp only [Option.some.injEq, Prod.mk.injEq] at H
                obtain ⟨rfl, rfl⟩ := H
                obtain ⟨Ao13, co13, eo13⟩ := Kd.R_slice HO0.out
                subst eo13
                go_enter Try.func37, Try.ntmps37
                go_wp2_with (first | ((with_reducible refine gate_callee (f := 34) rfl ?_); refine goesL_ (some 10) rfl rfl Try.func34 (by kernel_rfl) rfl #[.slice Ao13 l0.length co13, .int .i64 a1] rfl (by (try simp only [List.map_toArray, List.map_cons, List.map_nil]); first | done | rfl | (simp only [List.length_drop, List.length_take]; rfl)) ?_; (with_reducible refine (lighterref08_Find.calls k _ _ l0 a1 t166 _ ?side1 ?side2 A3.out).mono ?_); (case side1 => repeat (first | exact (Kd.R_reads' HO0.out).2.2 | (with_reducible refine Kd.C_alloc ?_ _) | (with_reducible refine Kd.C_drewN ?_ _) | (with_reducible refine Kd.C_drew ?_))); (case side2 => exact (Kd.R_reads' HO0.out).2.1); rintro e w' ⟨rfl, ⟨nd, rfl⟩⟩; refine ⟨_, rfl, ?_⟩; have q14 : (t166 : Int) ≤ ((l0.length : Int) : Int) := of_decide_eq_true (by first | (with_reducible assumption) | assumption); obtain ⟨i014, hi014, _, hsz14, _⟩ := info_parts info25; have hroom14 : l0.length ≤ co13 := (Kd.R_reads' HO0.out).2.1; have hC14 : Kd.C k25 _ Ao13 l0.length l0 := (Kd.R_reads' HO0.out).2.2; have hcut14 := cut_to (P := Try.prog) 26 25 .i64 Try.underlying26 hi014 Ao13 l0.length co13 t166 (of_decide_eq_true (by first | (with_reducible assumption) | assumption)) q14 hroom14; have hr14 := Kd.C_take (m := (t166 : Int).toNat) hC14 (by omega); have hy14 : y167.length = (t166 : Int).toNat := (by rw [Ny167.out, List.length_take]; omega); rw [← Ny167.out] at hr14; rw [← hy14] at hcut14; have HR170 := Aside0.mk hr14; have HC170 := Aside0.mk (show y167.length ≤ co13 from by omega); clear hr14 hC14 hroom14 hi014 hsz14; have KY14 := Aside0.mk hy14; clear hy14; have KL14 := Aside0.mk (show (t166 : Int).toNat ≤ l0.length from by omega); replace q14 := eq_true q14) | ((with_reducible refine gate_builtin (b := .append) (xs := #[.tmp 14, .tmp 17]) rfl ?_); at_builtin; refine Kd.R_append_rows k25 (w0 := w0) w0.heap.size rfl (.tmp 14) (.tmp 17) 26 25 (.agg #[(.int .i64 0), (.int .i64 0), (.int .i64 0)]) 24 rfl Try.underlying26 info25 rfl (by decide) (by omega) (.slice none 0 0) ([] : List (S25)) y167 _ _ _ (fun k_ => (P0_ k_ ∨ w.heap.size ≤ k_) ∧ some k_ ≠ (.slice Ao13 l0.length co13 : Value).ownBlock) (fun _ => False) rfl rfl ?aO ?aR (fun _ _ h => h) (fun _ h => h.elim) ?aF ?aB ?aS ?aL ?_; (case aR => repeat (first | exact (by repeat (first | (with_reducible exact HR170.out) | (with_reducible refine Kd.C_alloc ?_ _) | (with_reducible refine Kd.C_drewN ?_ _) | (with_reducible refine Kd.C_drew ?_) | exact HR170.out)) | (with_reducible refine Kd.C_alloc ?_ _) | (with_reducible refine Kd.C_drewN ?_ _) | (with_reducible refine Kd.C_drew ?_))); (case aB => exact (by repeat (first | (with_reducible first | exact HB.out | apply below_alloc | apply pw_below_drewN | apply below_drew1) | exact HB.out))); (case aF => exact (fun k_ hk => ⟨(.inr (Nat.le_trans (by first | exact HK.out.1 | exact (show Kept w _ (fun k_ => P0_ k_) from by repeat (first | (with_reducible first | exact HK.out | apply Kept.alloc | apply Kept.drewN | apply Kept.drew) | exact HK.out)).1) hk)), Kd.fresh' (Kd.R_lt (by (with_reducible repeat (first | apply Kd.R_alloc | apply Kd.R_drewN | apply Kd.R_drew)); exact HO0.out)) k_ hk⟩)); (case aO => exact ((Kd.R_nil _ _ _ _ (fun k_ => (P0_ k_ ∨ w.heap.size ≤ k_) ∧ some k_ ≠ (.slice Ao13 l0.length co13 : Value).ownBlock)))); (case aS => exact (below_size (by repeat (first | (with_reducible first | exact HB.out | apply below_alloc | apply pw_below_drewN | apply below_drew1) | exact HB.out)))); (case aL => have := LMc8.out; omega); intro v172 w15 ho hb hg hat; rw [← Ny171.out] at ho; have n0_ := Aside0.mk (Kd.R_after (Kd.R_apart_nil (by (with_reducible repeat (first | apply Kd.R_alloc | apply Kd.R_drewN | apply Kd.R_drew)); exact HO0.out)) hg hat); have n1_ := Aside0.mk (hb); have n2_ := Aside0.mk (Kept.of_grown (S := (fun k_ => P0_ k_)) hg (by repeat (first | (with_reducible first | exact HK.out | apply Kept.alloc | apply Kept.drewN | apply Kept.drew) | exact HK.out)) (fun k_ e_ => by simp [Value.ownBlock] at e_)); have n3_ := Aside0.mk ((show Kd.C k25 w15 Ao13 y167.length y167 from by rw [Ny167.out]; exact Kd.C_take (m := (t166 : Int).toNat) ((Kd.R_reads' (Kd.R_after (Kd.R_apart_nil (by (with_reducible repeat (first | apply Kd.R_alloc | apply Kd.R_drewN | apply Kd.R_drew)); exact HO0.out)) hg hat)).2.2) KL14.out)); have n4_ := Aside0.mk (ho); clear HO0; clear HB; clear HK; clear HR170; have HO0 := n0_; have HB := n1_; have HK := n2_; have HR170 := n3_; have HO173 := n4_; clear n0_ n1_ n2_ n3_ n4_; clear ho hb hg hat; have q16 : ((ji9) : Int) ≤ ((l0.length : Int) : Int) := of_decide_eq_true (by first | (with_reducible assumption) | assumption); obtain ⟨i016, hi016, _, hsz16, _⟩ := info_parts info25; have hroom16 : l0.length ≤ co13 := (Kd.R_reads' HO0.out).2.1; have hC16 : Kd.C k25 _ Ao13 l0.length l0 := (Kd.R_reads' HO0.out).2.2; have q016 : (0 : Int) ≤ ((ji9) : Int) := of_decide_eq_true (by first | (with_reducible assumption) | assumption); have hcut16 := cut_from (P := Try.prog) 26 25 .i64 Try.underlying26 hi016 3 hsz16 Ao13 l0.length co13 (ji9) q016 q16; have hr16 := Kd.C_drop (m := ((ji9) : Int).toNat) (c := co13) hC16 (by omega) hroom16; obtain ⟨A16, hA16⟩ : ∃ A1, A1 = (if co13 = ((ji9) : Int).toNat then Ao13 else (Ao13 : Option Addr).map (·.add (((ji9) : Int).toNat * 3))) := ⟨_, rfl⟩; obtain ⟨c16, hc16⟩ : ∃ c1, c1 = co13 - ((ji9) : Int).toNat := ⟨_, rfl⟩; have hy16 : y174.length = l0.length - ((ji9) : Int).toNat := (by rw [Ny174.out, List.length_drop] <;> omega); rw [show (l0).drop ((ji9) : Int).toNat = y174 from Ny174.out.symm] at hr16; replace hr16 : Kd.C k25 _ A16 y174.length y174 := (by rw [hA16]; exact hr16); rw [← hy16, ← hA16, ← hc16] at hcut16; have HR177 := Aside0.mk hr16; have HC177 := Aside0.mk (show y174.length ≤ c16 from by rw [hy16, hc16]; exact Nat.sub_le_sub_right hroom16 _); clear hr16 hC16 hroom16 hi016 hsz16 hc16; have KY16 := Aside0.mk hy16; have KA16 := Aside0.mk hA16; clear hy16 hA16; have KL16 := Aside0.mk (show ((ji9) : Int).toNat ≤ l0.length from by omega); replace q16 := eq_true q16) | ((with_reducible refine gate_builtin (b := .append) (xs := #[.tmp 19, .tmp 23]) rfl ?_); at_builtin; refine Kd.R_append_rows k25 (w0 := w0) w0.heap.size rfl (.tmp 19) (.tmp 23) 26 25 (.agg #[(.int .i64 0), (.int .i64 0), (.int .i64 0)]) 24 rfl Try.underlying26 info25 rfl (by decide) (by omega) v172 y171 y174 _ _ _ (fun k_ => (P0_ k_ ∨ w.heap.size ≤ k_) ∧ some k_ ≠ (.slice Ao13 l0.length co13 : Value).ownBlock) (fun _ => False) rfl rfl ?aO ?aR (fun _ _ h => h) (fun _ h => h.elim) ?aF ?aB ?aS ?aL ?_; (case aR => repeat (first | exact (by repeat (first | (with_reducible exact HR177.out) | (with_reducible refine Kd.C_alloc ?_ _) | (with_reducible refine Kd.C_drewN ?_ _) | (with_reducible refine Kd.C_drew ?_) | exact HR177.out)) | (with_reducible refine Kd.C_alloc ?_ _) | (with_reducible refine Kd.C_drewN ?_ _) | (with_reducible refine Kd.C_drew ?_))); (case aB => exact (by repeat (first | (with_reducible first | exact HB.out | apply below_alloc | apply pw_below_drewN | apply below_drew1) | exact HB.out))); (case aF => exact (fun k_ hk => ⟨(.inr (Nat.le_trans (by first | exact HK.out.1 | exact (show Kept w _ (fun k_ => P0_ k_) from by repeat (first | (with_reducible first | exact HK.out | apply Kept.alloc | apply Kept.drewN | apply Kept.drew) | exact HK.out)).1) hk)), Kd.fresh' (Kd.R_lt (by (with_reducible repeat (first | apply Kd.R_alloc | apply Kd.R_drewN | apply Kd.R_drew)); exact HO0.out)) k_ hk⟩)); (case aO => exact (by (with_reducible repeat (first | apply Kd.R_alloc | apply Kd.R_drewN | apply Kd.R_drew)); exact HO173.out)); (case aS => exact (below_size (by repeat (first | (with_reducible first | exact HB.out | apply below_alloc | apply pw_below_drewN | apply below_drew1) | exact HB.out)))); (case aL => have := LMc12.out; omega); intro v179 w17 ho hb hg hat; rw [← Ny178.out] at ho; have n0_ := Aside0.mk (Kd.R_after (ok := (fun k_ => (P0_ k_ ∨ w.heap.size ≤ k_))) (by (with_reducible repeat (first | apply Kd.R_alloc | apply Kd.R_drewN | apply Kd.R_drew)); exact HO0.out) hg hat); have n1_ := Aside0.mk (hb); have n2_ := Aside0.mk (Kept.of_grown (S := (fun k_ => P0_ k_)) hg (by repeat (first | (with_reducible first | exact HK.out | apply Kept.alloc | apply Kept.drewN | apply Kept.drew) | exact HK.out)) (fun k_ e_ => (HO173.out.1 k_ e_).1)); have n3_ := Aside0.mk ((show Kd.C k25 w17 Ao13 y167.length y167 from by rw [Ny167.out]; exact Kd.C_take (m := (t166 : Int).toNat) ((Kd.R_reads' (Kd.R_after (ok := (fun k_ => (P0_ k_ ∨ w.heap.size ≤ k_))) (by (with_reducible repeat (first | apply Kd.R_alloc | apply Kd.R_drewN | apply Kd.R_drew)); exact HO0.out) hg hat)).2.2) KL14.out)); have n4_ := Aside0.mk ((show Kd.C k25 w17 A16 y174.length y174 from by rw [Ny174.out, KA16.out]; exact Kd.C_drop (m := ((ji9) : Int).toNat) (c := co13) ((Kd.R_reads' (Kd.R_after (ok := (fun k_ => (P0_ k_ ∨ w.heap.size ≤ k_))) (by (with_reducible repeat (first | apply Kd.R_alloc | apply Kd.R_drewN | apply Kd.R_drew)); exact HO0.out) hg hat)).2.2) KL16.out ((Kd.R_reads' (Kd.R_after (ok := (fun k_ => (P0_ k_ ∨ w.heap.size ≤ k_))) (by (with_reducible repeat (first | apply Kd.R_alloc | apply Kd.R_drewN | apply Kd.R_drew)); exact HO0.out) hg hat)).2.1))); have n5_ := Aside0.mk (ho); clear HO0; clear HB; clear HK; clear HR170; clear HR177; clear HO173; have HO0 := n0_; have HB := n1_; have HK := n2_; have HR170 := n3_; have HR177 := n4_; have HO180 := n5_; clear n0_ n1_ n2_ n3_ n4_ n5_; clear ho hb hg hat))
                go_ret2
                exact ⟨_, by first | rfl | (simp [errW_none, errW_some] <;> rfl) | (simp only [← hji9]; first | rfl | (simp [errW_none, errW_some] <;> rfl)) | (simp [*, errW_none, errW_some] <;> rfl), by (with_reducible repeat (first | apply Kd.R_alloc | apply Kd.R_drewN | apply Kd.R_drew)); exact Kd.R_mono HO180.out (fun _ hk => hk.1), by repeat (first | (with_reducible first | exact HB.out | apply below_alloc | apply pw_below_drewN | apply below_drew1) | exact HB.out), by repeat (first | (with_reducible first | exact HK.out | apply Kept.alloc | apply Kept.drewN | apply Kept.drew) | exact HK.out)⟩
              · rw [if_neg c12] at H
                exact absurd H (by simp)
            · rw [if_neg c11] at H
              exact absurd H (by simp)
          · rw [if_neg c10] at H
            exact absurd H (by simp)
        · rw [if_neg c8] at H
          exact absurd H (by simp)
      · rw [if_neg c7] at H
        exact absurd H (by simp)
    · rw [if_neg c6] at H
      exact absurd H (by simp)
end Go.Proofs.Ytcjeegomonegpaa.PLivePlays
namespace Go.Proofs.Ytcjeegomonegpaa.PLivePlays
open Go.RowKit Go.Maps Go.Proofs.YtcjeegomonegpaaW.PrintWords Go.Proofs.YtcjeegomonegpaaW.PrintLast Go.Proofs.YtcjeegomonegpaaW.PrintMore
set_option linter.unusedVariables false
set_option linter.unusedSimpArgs false
def rowV (x : S23) : Value := .agg #[.int .i64 x.f0, .int .i64 x.f1, .int .i64 x.f2]
def rowL (x : S23) : List Value := [.int .i64 x.f0, .int .i64 x.f1, .int .i64 x.f2]
def rowD (x : S23) : DataW Unit := .agg [.lit (.int .i64 x.f0), .lit (.int .i64 x.f1), .lit (.int .i64 x.f2)]
def rowI : Value → Option Int
  | .int .i64 a => some a
  | _ => none
def rowT : List Value → Option S23
  | [a, b, c] => (rowI a).bind fun x => (rowI b).bind fun y => (rowI c).bind fun z => some ⟨x, y, z⟩
  | _ => none
def rowR : Value → Option (DataW Unit × List MemPlace)
  | .agg cs => (rowT cs.toList).map fun x => (rowD x, [])
  | _ => none
theorem rowI_inv {v : Value} {a : Int} (h : rowI v = some a) : v = .int .i64 a := by
  unfold rowI at h
  split at h
  · cases h; rfl
  · cases h
theorem rowT_inv {l : List Value} {x : S23} (h : rowT l = some x) : l = [.int .i64 x.f0, .int .i64 x.f1, .int .i64 x.f2] := by
  unfold rowT at h
  split at h
  · obtain ⟨a, ha, h⟩ := Option.bind_eq_some_iff.1 h
    obtain ⟨b, hb, h⟩ := Option.bind_eq_some_iff.1 h
    obtain ⟨c, hc, h⟩ := Option.bind_eq_some_iff.1 h
    cases h
    rw [rowI_inv ha, rowI_inv hb, rowI_inv hc]
  · cases h
theorem rowR_mk (x : S23) : rowR (rowV x) = some (rowD x, []) := rfl
theorem rowR_inv {v : Value} {z : DataW Unit × List MemPlace} (h : rowR v = some z) : ∃ x, v = rowV x ∧ z = (rowD x, []) := by
  unfold rowR at h
  split at h
  · rename_i cs
    obtain ⟨x, hx, h⟩ := Option.map_eq_some_iff.1 h
    refine ⟨x, ?_, h.symm⟩
    have := rowT_inv hx
    unfold rowV
    congr 1
    cases cs
    simpa using this
  · cases h
theorem rowD_inj {x y : S23} (h : rowD x = rowD y) : x = y := by
  cases x; cases y
  simp [rowD] at h
  obtain ⟨rfl, rfl, rfl⟩ := h
  rfl
def MayR (x : S23) : Prop := 1 ≤ x.f0 ∧ x.f0 < 1099511627776 ∧ 0 ≤ x.f1 ∧ x.f1 ≤ 65536 ∧ 0 ≤ x.f2 ∧ x.f2 ≤ x.f1
instance (x : S23) : Decidable (MayR x) := by unfold MayR; infer_instance
theorem keyed3 : Keyed Try.prog 3 := int_keyed Try.underlying3
theorem wf_of {a : Int} (h1 : -9223372036854775808 ≤ a) (h2 : a ≤ 9223372036854775807) : (Lit.int .i64 a).wf = true := by
  have e1 : IntKind.i64.min = -9223372036854775808 := by decide
  have e2 : IntKind.i64.max = 9223372036854775807 := by decide
  simp [Lit.wf, e1, e2, h1, h2]
theorem key_row {x : S23} (h : MayR x) : keyOf Try.prog 3 (.int .i64 x.f0) = some (.int .i64 x.f0) := keyOf_int_mk Try.underlying3 (wf_of (by have := h.1; omega) (by have := h.2.1; omega))
def MapOf (D : DataW Unit) (T : List S23) : Prop :=
  T.Pairwise (fun x y => x.f0 < y.f0) ∧ (∀ x ∈ T, MayR x) ∧ (∀ kl, Maps.has D kl = true ↔ ∃ x ∈ T, kl = .int .i64 x.f0) ∧ ∀ x ∈ T, ∀ zd, D.atKey (.int .i64 x.f0) zd = rowD x
def TMap (w : World) (b N : Nat) (T : List S23) : Prop := T.length ≤ N ∧ ∃ D, w.ownsMap Try.prog 3 rowR b N D ∧ MapOf D T
theorem MapOf.nil : MapOf (.map []) [] := ⟨List.Pairwise.nil, by simp, fun kl => by simp [Maps.has], by simp⟩
theorem TMap.lt {w : World} {b N : Nat} {T : List S23} (h : TMap w b N T) : b < w.heap.size := by
  obtain ⟨_, D, h, _⟩ := h
  exact h.lt
theorem TMap.kept {w w' : World} {b N : Nat} {T : List S23} {row : Option Nat} (h : TMap w b N T) (hg : w.grownBy w' row) (hne : some b ≠ row) : TMap w' b N T := by
  obtain ⟨h0, D, h, h1⟩ := h
  exact ⟨h0, D, h.kept hg hne, h1⟩
theorem TMap.mono {w : World} {b N M : Nat} {T : List S23} (h : TMap w b N T) (hM : N ≤ M) : TMap w b M T := by
  obtain ⟨h0, D, h, h1⟩ := h
  exact ⟨by omega, D, h.mono hM, h1⟩
theorem TMap.below {w w' : World} {b N : Nat} {T : List S23} (h : TMap w b N T) (hb : Below w.heap.size w w') : TMap w' b N T := by
  obtain ⟨h0, D, ⟨es, clock, hh, F, hs, hD⟩, h1⟩ := h
  exact ⟨h0, D, ⟨es, clock, (hb.block b (Array.getElem?_eq_some_iff.1 hh).1).trans hh, F, hs, hD⟩, h1⟩
def putT (x : S23) : List S23 → List S23
  | [] => [x]
  | y :: T => if x.f0 < y.f0 then x :: y :: T else if x.f0 = y.f0 then x :: T else y :: putT x T
theorem putT_len (x : S23) (T : List S23) : (putT x T).length ≤ T.length + 1 := by
  induction T with
  | nil => simp [putT]
  | cons y T ih =>
    unfold putT
    split
    · simp
    · split
      · simp
      · simp
        omega
theorem mem_putT {x z : S23} {T : List S23} (hT : T.Pairwise (fun x y => x.f0 < y.f0)) : z ∈ putT x T ↔ z = x ∨ (z ∈ T ∧ z.f0 ≠ x.f0) := by
  induction T with
  | nil => simp [putT]
  | cons y T ih =>
    obtain ⟨h1, h2⟩ := List.pairwise_cons.1 hT
    unfold putT
    split
    · rename_i hlt
      simp only [List.mem_cons]
      constructor
      · rintro (h | h | h)
        · exact .inl h
        · exact .inr ⟨.inl h, by rw [h]; omega⟩
        · exact .inr ⟨.inr h, by have := h1 z h; omega⟩
      · rintro (h | ⟨h | h, _⟩)
        · exact .inl h
        · exact .inr (.inl h)
        · exact .inr (.inr h)
    · split
      · rename_i hge heq
        simp only [List.mem_cons]
        constructor
        · rintro (h | h)
          · exact .inl h
          · exact .inr ⟨.inr h, by have := h1 z h; omega⟩
        · rintro (h | ⟨h | h, hn⟩)
          · exact .inl h
          · subst h
            exact absurd heq.symm hn
          · exact .inr h
      · rename_i hge hne
        simp only [List.mem_cons, ih h2]
        constructor
        · rintro (h | h | ⟨h, hn⟩)
          · subst h
            exact .inr ⟨.inl rfl, fun e => hne e.symm⟩
          · exact .inl h
          · exact .inr ⟨.inr h, hn⟩
        · rintro (h | ⟨h | h, hn⟩)
          · exact .inr (.inl h)
          · exact .inl h
          · exact .inr (.inr ⟨h, hn⟩)
theorem putT_sorted {x : S23} {T : List S23} (hT : T.Pairwise (fun x y => x.f0 < y.f0)) : (putT x T).Pairwise (fun x y => x.f0 < y.f0) := by
  induction T with
  | nil => simp [putT]
  | cons y T ih =>
    obtain ⟨h1, h2⟩ := List.pairwise_cons.1 hT
    unfold putT
    split
    · rename_i hlt
      refine List.pairwise_cons.2 ⟨fun z hz => ?_, hT⟩
      rcases List.mem_cons.1 hz with rfl | hz
      · exact hlt
      · have := h1 z hz
        omega
    · split
      · rename_i hge heq
        refine List.pairwise_cons.2 ⟨fun z hz => ?_, h2⟩
        have := h1 z hz
        omega
      · rename_i hge hne
        refine List.pairwise_cons.2 ⟨fun z hz => ?_, ih h2⟩
        rcases (mem_putT h2).1 hz with rfl | ⟨hz, _⟩
        · omega
        · exact h1 z hz
theorem MapOf.put {D : DataW Unit} {T : List S23} {x : S23} (h : MapOf D T) (hx : MayR x) (hm : IsMap D) : MapOf (D.put (.int .i64 x.f0) (rowD x)) (putT x T) := by
  obtain ⟨h1, h2, h3, h4⟩ := h
  have hk : WideAt.IsKeyLit (.int .i64 x.f0) := by
    have := keyed3.key (key_row hx)
    exact this
  refine ⟨putT_sorted h1, fun z hz => ?_, fun kl => ?_, fun z hz zd => ?_⟩
  · rcases (mem_putT h1).1 hz with rfl | ⟨hz, _⟩
    · exact hx
    · exact h2 z hz
  · by_cases he : kl = .int .i64 x.f0
    · subst he
      rw [has_put_same hm hk]
      simp only [true_iff]
      exact ⟨x, (mem_putT h1).2 (.inl rfl), rfl⟩
    · rw [has_put_other he, h3]
      constructor
      · rintro ⟨z, hz, rfl⟩
        exact ⟨z, (mem_putT h1).2 (.inr ⟨hz, fun e => he (by rw [e])⟩), rfl⟩
      · rintro ⟨z, hz, rfl⟩
        rcases (mem_putT h1).1 hz with rfl | ⟨hz, _⟩
        · exact absurd rfl he
        · exact ⟨z, hz, rfl⟩
  · rcases (mem_putT h1).1 hz with rfl | ⟨hz, hne⟩
    · exact atKey_put_same hm hk _ _
    · rw [atKey_put_other (by simpa using hne)]
      exact h4 z hz zd
def findT (T : List S23) (k : Int) : Option S23 := T.find? (fun x => x.f0 == k)
theorem findT_some {T : List S23} {k : Int} {x : S23} (h : findT T k = some x) : x ∈ T ∧ x.f0 = k := by
  unfold findT at h
  exact ⟨List.mem_of_find?_eq_some h, by simpa using List.find?_some h⟩
theorem findT_none {T : List S23} {k : Int} (h : findT T k = none) : ∀ x ∈ T, x.f0 ≠ k := by
  unfold findT at h
  intro x hx
  simpa using List.find?_eq_none.1 h x hx
theorem MapOf.has_iff {D : DataW Unit} {T : List S23} (h : MapOf D T) (k : Int) : Maps.has D (.int .i64 k) = (findT T k).isSome := by
  cases hf : findT T k with
  | some x =>
    obtain ⟨hx, rfl⟩ := findT_some hf
    rw [(h.2.2.1 _).2 ⟨x, hx, rfl⟩]
    rfl
  | none =>
    have hn := findT_none hf
    cases hh : Maps.has D (.int .i64 k) with
    | false => rfl
    | true =>
      obtain ⟨x, hx, e⟩ := (h.2.2.1 _).1 hh
      injection e with _ e
      exact absurd e.symm (hn x hx)
theorem zero23 (w : World) : (zeroValue 23).run Try.prog w = .ok (rowV ⟨0, 0, 0⟩) w := Try.zeroValue23 w
theorem TMap.look {w : World} {b N : Nat} {T : List S23} {k : Int} (h : TMap w b N T) (hk : (Lit.int .i64 k).wf = true) :
    (Instr.lookup 77 (.map (some b)) (.int .i64 k) true).run Try.prog w = .ok (.tuple #[rowV ((findT T k).getD ⟨0, 0, 0⟩), .bool (findT T k).isSome]) w := by
  obtain ⟨_, D, h, hm⟩ := h
  obtain ⟨v, ps, hrun, hv⟩ := h.look_ok keyed3 Try.underlying77 (zero23 w) (rowR_mk ⟨0, 0, 0⟩) (keyOf_int_mk Try.underlying3 hk)
  rw [hm.has_iff k] at hrun
  cases hf : findT T k with
  | some x =>
    obtain ⟨hx, rfl⟩ := findT_some hf
    rw [hm.2.2.2 x hx] at hv
    obtain ⟨y, rfl, hy⟩ := rowR_inv hv
    have hy := (Prod.mk.inj hy).1
    rw [hf] at hrun
    rw [← rowD_inj hy] at hrun
    exact hrun
  | none =>
    have hd : ∀ z, D.atKey (.int .i64 k) z = z := fun z => by
      have : Maps.has D (.int .i64 k) = false := by rw [hm.has_iff, hf]; rfl
      exact atKey_of_not_has this z
    rw [hd] at hv
    obtain ⟨y, rfl, hy⟩ := rowR_inv hv
    have hy := (Prod.mk.inj hy).1
    rw [hf] at hrun
    rw [← rowD_inj hy] at hrun
    exact hrun
end Go.Proofs.Ytcjeegomonegpaa.PLivePlays
namespace Go.Proofs.Ytcjeegomonegpaa.PLivePlays
open Go.RowKit Go.Maps Go.Proofs.YtcjeegomonegpaaW.PrintWords Go.Proofs.YtcjeegomonegpaaW.PrintLast Go.Proofs.YtcjeegomonegpaaW.PrintMore
set_option linter.unusedVariables false
set_option linter.unusedSimpArgs false
theorem may_f (x : S23) : live_Row_may.f x.f0 x.f1 x.f2 = some (decide (MayR x)) := by
  unfold live_Row_may.f MayR
  by_cases h1 : x.f0 ≥ 1
  · by_cases h2 : x.f0 < 1099511627776
    · by_cases h3 : x.f1 ≥ 0
      · by_cases h4 : x.f1 ≤ 65536
        · by_cases h5 : x.f2 ≥ 0
          · simp [h1, h2, h3, h4, h5]
          · simp [h1, h2, h3, h4, h5]
        · simp [h1, h2, h3, h4]
      · simp [h1, h2, h3]
    · simp [h1, h2]
  · simp [h1]
theorem may_calls (x : S23) (w : World) : Calls Try.prog 49 #[rowV x] w fun e w' => e = .returned (.bool (decide (MayR x))) ∧ Below w.heap.size w w' := live_Row_may.calls _ _ _ _ w (may_f x)
theorem bad_calls (x : S23) (w : World) : Calls Try.prog 48 #[rowV x] w fun e w' => e = .returned (.bool (!decide (MayR x))) ∧ Below w.heap.size w w' := by
  have H := fun W => may_calls x W
  unfold rowV at H ⊢
  generalize decide (MayR x) = q at H ⊢
  obtain ⟨x0, x1, x2⟩ := x
  simp only at H ⊢
  have z0 := blk_new w (.cells #[.int .i64 x0, .int .i64 x1, .int .i64 x2] 23)
  go_enter Try.func48, Try.ntmps48
  go_wp2_with (go_at_call 49; refine (H _).mono ?_; rintro e w' ⟨rfl, hb⟩)
  go_ret
  exact ⟨rfl, below_step (below_alloc (Below.refl _ _) _) hb⟩
def idxOf (p : S23 → Bool) (l : List S23) : Int := match l.findIdx? p with
  | some i => (i : Int)
  | none => -1
theorem rd_T23_get {l : List S23} {k : Nat} (h : k < l.length) : rd_T23 l (k : Int) = l[k] := by
  unfold rd_T23
  rw [List.getD_eq_getElem?_getD, Int.toNat_natCast, List.getElem?_eq_getElem h]
  rfl
theorem row_cells {w : World} {A : Option Addr} {l : List S23} (h : Kd.C k23 w A l.length l) (k : Nat) (hk : k < l.length) : ∃ ad, A = some ad ∧ w.cell? (ad.add (k * 3)) = some (.int .i64 l[k].f0) ∧ w.cell? ⟨(ad.add (k * 3)).block, (ad.add (k * 3)).off + 1, none⟩ = some (.int .i64 l[k].f1) ∧ w.cell? ⟨(ad.add (k * 3)).block, (ad.add (k * 3)).off + 2, none⟩ = some (.int .i64 l[k].f2) := by
  obtain ⟨ad, e, h0, h1, h2⟩ := at_T23 h (k : Int) (by omega) (by omega)
  rw [rd_T23_get hk, Int.toNat_natCast] at h0 h1 h2
  exact ⟨ad, e, h0, h1, h2⟩
set_option maxRecDepth 100000 in
set_option maxHeartbeats 1000000 in
theorem index_calls (g : Nat) (lb : Array Value) (p : S23 → Bool) (A : Option Addr) (c : Nat) (l : List S23) (w : World) (hr : Kd.C k23 w A l.length l)
    (eg : ∀ args w, (callFunc g args).run Try.prog w = .ok (.enter g args) w)
    (hp : ∀ W x, Below w.heap.size w W → Calls Try.prog g (#[.agg #[.int .i64 x.f0, .int .i64 x.f1, .int .i64 x.f2]] ++ lb) W fun e w' => e = .returned (.bool (p x)) ∧ Below W.heap.size W w') :
    Calls Try.prog 59 #[.slice A l.length c, .func (.func g) #[] lb] w fun e w' => e = .returned (.int .i64 (idxOf p l)) ∧ Below w.heap.size w w' := by
  have HR := Aside0.mk hr
  clear hr
  have HP := Aside0.mk hp
  clear hp
  go_enter Try.func59, Try.ntmps59
  go_wp2
  go_loopw [5, 8] (fun v5 v8 wr => ∃ k : Nat, k ≤ l.length ∧ v8 = .int .i64 k ∧ Aside0 (Below w.heap.size w wr) ∧ Aside0 (∀ j (h : j < l.length), j < k → p l[j] = false)) (fun _ v8 _ => l.length - (intOf v8).toNat)
  case atStart => exact ⟨0, Nat.zero_le _, rfl, ⟨Below.refl _ w⟩, ⟨fun j _ hj => absurd hj (Nat.not_lt_zero _)⟩⟩
  case round =>
    as_aux_lemma =>
      obtain ⟨k, hk, rfl, HB, HF⟩ := hrel
      have hmx : l.length ≤ 9223372036854775807 := HR.out.2.1
      by_cases hlt : k < l.length
      · obtain ⟨ad, rfl, h0, h1, h2⟩ := row_cells (Kd.C_below HR.out HB.out) k hlt
        have hcall := HP.out wr l[k] HB.out
        have hk1 : k + 1 ≤ l.length := hlt
        generalize hx : l[k] = x at h0 h1 h2 hcall
        have HX := Aside0.mk hx
        clear hx
        obtain ⟨x0, x1, x2⟩ := x
        simp only at h0 h1 h2 hcall
        cases hq : p ⟨x0, x1, x2⟩ with
        | true =>
          as_aux_lemma =>
            rw [hq] at hcall
            go_wp2_with (go_at_fn g; refine hcall.mono ?_; rintro e w' ⟨rfl, hb⟩)
            go_ret
            refine ⟨?_, below_step HB.out hb⟩
            have : idxOf p l = k := by
              have : l.findIdx? p = some k := by
                rw [List.findIdx?_eq_some_iff_getElem]
                exact ⟨hlt, by rw [HX.out, hq], fun j hj => by rw [HF.out j (by omega) hj]; simp⟩
              unfold idxOf
              rw [this]
            rw [this]
            rfl
        | false =>
          as_aux_lemma =>
            rw [hq] at hcall
            go_wp2_with (go_at_fn g; refine hcall.mono ?_; rintro e w' ⟨rfl, hb⟩)
            refine ⟨⟨k + 1, by omega, by go_num, ⟨below_step HB.out hb⟩, ⟨fun j h hj => ?_⟩⟩, by simp [intOf]; omega⟩
            by_cases e : j = k
            · subst e
              rw [HX.out, hq]
            · exact HF.out j h (by omega)
      · have : k = l.length := by omega
        subst this
        go_wp2
        go_ret
        refine ⟨?_, HB.out⟩
        have : idxOf p l = -1 := by
          have : l.findIdx? p = none := by
            rw [List.findIdx?_eq_none_iff]
            intro x hx
            obtain ⟨j, hj, rfl⟩ := List.getElem_of_mem hx
            exact HF.out j hj hj
          unfold idxOf
          rw [this]
        rw [this]
        rfl
theorem idxOf_nonneg (p : S23 → Bool) (l : List S23) : decide (0 ≤ idxOf p l) = l.any p := by
  unfold idxOf
  cases h : l.findIdx? p with
  | none =>
    have h2 := List.findIdx?_eq_none_iff.1 h
    have : l.any p = false := by
      rw [List.any_eq_false]
      intro x hx
      rw [h2 x hx]
      simp
    rw [this]
    rfl
  | some i =>
    obtain ⟨hi, hp, _⟩ := List.findIdx?_eq_some_iff_getElem.1 h
    have : l.any p = true := List.any_eq_true.2 ⟨_, List.getElem_mem hi, hp⟩
    rw [this]
    simp
theorem contains_calls (g : Nat) (lb : Array Value) (p : S23 → Bool) (A : Option Addr) (c : Nat) (l : List S23) (w : World) (hr : Kd.C k23 w A l.length l)
    (eg : ∀ args w, (callFunc g args).run Try.prog w = .ok (.enter g args) w)
    (hp : ∀ W x, Below w.heap.size w W → Calls Try.prog g (#[.agg #[.int .i64 x.f0, .int .i64 x.f1, .int .i64 x.f2]] ++ lb) W fun e w' => e = .returned (.bool (p x)) ∧ Below W.heap.size W w') :
    Calls Try.prog 47 #[.slice A l.length c, .func (.func g) #[] lb] w fun e w' => e = .returned (.bool (l.any p)) ∧ Below w.heap.size w w' := by
  have H := index_calls g lb p A c l w hr eg hp
  have hn := idxOf_nonneg p l
  clear hr hp eg
  generalize idxOf p l = q at H hn
  rw [← hn]
  clear hn
  go_enter Try.func47, Try.ntmps47
  go_wp2_with (go_at_call 59; refine H.mono ?_; rintro e w' ⟨rfl, hb⟩)
  go_ret
  exact ⟨rfl, hb⟩
end Go.Proofs.Ytcjeegomonegpaa.PLivePlays
namespace Go.Proofs.Ytcjeegomonegpaa.PLivePlays
open Go.RowKit Go.Maps Go.Proofs.YtcjeegomonegpaaW.PrintWords Go.Proofs.YtcjeegomonegpaaW.PrintLast Go.Proofs.YtcjeegomonegpaaW.PrintMore
set_option linter.unusedVariables false
set_option linter.unusedSimpArgs false
set_option maxRecDepth 100000 in
set_option maxHeartbeats 2000000 in
theorem clone_run (b : Nat) (es : Array MapEntry) (clock : Nat) (w : World) (hb : w.heap[b]? = some (.map es clock)) :
    Calls Try.prog 50 #[.map (some b)] w fun e w' => e = .returned (.map (some w.heap.size)) ∧ w' = w.alloc (.map es clock) := by
  have hq := fun w => run_eql_map_nil_sl (P := Try.prog) w 77 _ _ (some b) Try.underlying77
  go_enter Try.func50, Try.ntmps50
  go_wp2
  rw [run_callFunc_extern Try.func64 (by kernel_rfl) (by kernel_rfl) (by kernel_rfl) (e := Extern.MapsClone.clone) (by kernel_rfl), run_maps_clone_sl w 77 hb]
  simp only [Result.andThen]
  rw [Oper.upon_value]
  go_wp2
  rw [run_typeAssert_map_sl _ 77 20 _ _ _ Try.underlying77]
  simp only [Result.andThen]
  rw [Oper.upon_value]
  go_wp2
  go_ret
  exact ⟨rfl, rfl⟩
theorem clone_calls (b N : Nat) (T : List S23) (w : World) (h : TMap w b N T) :
    Calls Try.prog 50 #[.map (some b)] w fun e w' => e = .returned (.map (some w.heap.size)) ∧ TMap w' w.heap.size N T ∧ Below w.heap.size w w' := by
  obtain ⟨h0, D, ⟨es, clock, hb, F, hs, hD⟩, h1⟩ := h
  refine (clone_run b es clock w hb).mono fun e w' ⟨he, hw⟩ => ?_
  subst hw
  exact ⟨he, ⟨h0, D, ⟨es, clock, (MapKept.heap_alloc w _).1, F, hs, hD⟩, h1⟩, (Below.refl _ w).alloc (Nat.le_refl _) _⟩
def Tb (w : World) (g N : Nat) (T : List S23) : Prop := ∃ b, w.heap[g]? = some (.cells #[.map (some b)] 79 (0, 0)) ∧ TMap w b N T
theorem Tb.below {w w' : World} {g N : Nat} {T : List S23} (h : Tb w g N T) (hb : Below w.heap.size w w') : Tb w' g N T := by
  obtain ⟨b, h1, h2⟩ := h
  exact ⟨b, blk_below h1 hb, h2.below hb⟩
theorem Tb.lt {w : World} {g N : Nat} {T : List S23} (h : Tb w g N T) : g < w.heap.size := by
  obtain ⟨b, h1, h2⟩ := h
  exact blk_lt h1
theorem new_calls (w : World) : Calls Try.prog 19 #[] w fun e w' => ∃ g, e = .returned (.pointer (some ⟨g, 0, none⟩)) ∧ w.heap.size ≤ g ∧ Tb w' g 0 [] ∧ Below w.heap.size w w' := by
  have hmm := @run_makeMap Try.prog
  go_enter Try.func19, Try.ntmps19
  go_wp2
  go_ret
  refine ⟨_, rfl, by simp, ⟨w.heap.size, (by have h := blk_new (w.alloc (Obj.map #[] 0)) (.cells #[.map (some w.heap.size)] 79); rwa [World.size_alloc] at h), ?_⟩, below_alloc (below_alloc (Below.refl _ _) _) _⟩
  exact TMap.below ⟨by simp, _, World.ownsMap_made w Try.prog 3 rowR, MapOf.nil⟩ (below_alloc (Below.refl _ _) _)
theorem wp_put {ops : Array Oper} {rest : List Oper} {o : Oper} {a : Act} {Q : Exit → Act → World → Prop} {W : World} {b N : Nat} {T : List S23} (hg : o.guard = none) (m x v : Operand) (hop : o.op = Op.mapUpdate 77 m x v)
    (hT : TMap W b N T) (hN : N < 1000000) (X : S23) (hX : MayR X) (hm : a.eval m = .map (some b)) (hx : a.eval x = .int .i64 X.f0) (hv : a.eval v = rowV X)
    (hK : ∀ w', TMap w' b (N + 1) (putT X T) → W.grownBy w' (some b) → wpList Try.prog ops Q rest (a.put o.dst undef) w') : wpList Try.prog ops Q (o :: rest) a W := by
  obtain ⟨h0, D, hown, hD⟩ := hT
  refine wpList_mapUpdate_own W hg m x v 77 hop 3 23 keyed3 Try.underlying77 rowR b N D hm hown (by unfold maxLen; omega) _ _ _ hx hv (key_row hX) (rowD X) [] (rowR_mk X) fun w' h1 h2 => ?_
  refine hK w' ⟨?_, _, h1, hD.put hX ?_⟩ h2
  · have := putT_len X T
    omega
  · exact hown.isMap
def addAll : List S23 → List S23 → Option (List S23)
  | T, [] => some T
  | T, x :: l => match findT T x.f0 with
    | some _ => none
    | none => addAll (putT x T) l
def addR (T l : List S23) : List S23 × Int := if l.any (fun x => !decide (MayR x)) then (T, 1) else match addAll T l with
  | none => (T, 16)
  | some T' => (T', 0)
theorem Tb.mono {w : World} {g N M : Nat} {T : List S23} (h : Tb w g N T) (hM : N ≤ M) : Tb w g M T := by
  obtain ⟨b, h1, h2⟩ := h
  exact ⟨b, h1, h2.mono hM⟩
theorem grown_of_below {w w' : World} (h : Below w.heap.size w w') (row : Option Nat) : w.grownBy w' row := ⟨h.os, h.tape, h.output, h.size, fun k hk _ => h.block k hk⟩
theorem grown_set (w : World) (g i : Nat) (v : Value) : w.grownBy (w.setCell ⟨g, i, none⟩ v) (some g) := ⟨rfl, rfl, rfl, by simp [World.setCell], fun k hk hne => Below.heap_setCell w ⟨g, i, none⟩ v k (fun e => hne (by rw [e]))⟩
theorem grown_trans {a b c : World} {row row' : Option Nat} (h : a.grownBy b row) (k : b.grownBy c row') (hr : ∀ j, row' = some j → a.heap.size ≤ j ∨ row = some j) : a.grownBy c row := h.andThen k hr
theorem drop_cons {l : List S23} {k : Nat} (h : k < l.length) : l.drop k = l[k] :: l.drop (k + 1) := List.drop_eq_getElem_cons h
set_option maxRecDepth 100000 in
set_option maxHeartbeats 2000000 in
theorem add_calls (g N : Nat) (T : List S23) (A : Option Addr) (c : Nat) (l : List S23) (w : World) (hT : Tb w g N T) (hr : Kd.C k23 w A l.length l) (hN : N + l.length < 1000000) :
    Calls Try.prog 26 #[.pointer (some ⟨g, 0, none⟩), .slice A l.length c] w fun e w' => e = .returned (.int .i64 (addR T l).2) ∧ Tb w' g (N + l.length) (addR T l).1 ∧ w.grownBy w' (some g) := by
  have HR := Aside0.mk hr
  have HT := Aside0.mk hT
  have hmx : l.length ≤ 9223372036854775807 := hr.2.1
  have HC := fun W h => contains_calls 48 #[] (fun x => !decide (MayR x)) A c l W h (enters_of Try.func48 (by kernel_rfl) rfl) (fun W x _ => bad_calls x W)
  have HC := Aside0.mk HC
  clear hr hT
  by_cases hany : l.any (fun x => !decide (MayR x)) = true
  · have HA := Aside0.mk hany
    have hc := HC.out w HR.out
    rw [hany] at hc
    clear hany HC
    go_enter Try.func26, Try.ntmps26
    go_wp2_with (go_at_call 47; refine hc.mono ?_; rintro e w' ⟨rfl, hb⟩)
    go_ret
    have e1 : addR T l = (T, 1) := by unfold addR; rw [if_pos HA.out]
    rw [e1]
    obtain ⟨b, q1, q2⟩ := HT.out.below hb
    exact ⟨rfl, ⟨b, q1, q2.mono (by omega)⟩, hb.os, hb.tape, hb.output, hb.size, fun k hk _ => hb.block k hk⟩
  · have hany : l.any (fun x => !decide (MayR x)) = false := by simpa using hany
    have HA := Aside0.mk hany
    have hc := HC.out w HR.out
    rw [hany] at hc
    clear hany HC
    have hu77 := Try.underlying77
    have hu79 := Try.underlying79
    have hu23 := Try.underlying23
    obtain ⟨b0, hg0, hT0⟩ := HT.out
    have z0 := blk_lt hg0
    go_enter Try.func26, Try.ntmps26
    go_wp2_with (fail)
    refine hc.mono ?_
    rintro e w1 ⟨rfl, hb1⟩
    have hg1 := blk_below hg0 hb1
    have hT1 := hT0.below hb1
    have HB1 := Aside0.mk hb1
    have z1 := blk_lt hg1
    have c0 : w1.cell? ⟨g, 0, none⟩ = some (.map (some b0)) := (blk_cell hg1 0).trans rfl
    clear hg0 hT0 hb1
    have hcl := clone_calls b0 N T w1 hT1
    go_wp2_with (fail)
    refine hcl.mono ?_
    rintro e w2 ⟨rfl, hT2, hb2⟩
    have HB2 := Aside0.mk (below_step HB1.out hb2)
    have HG2 := Aside0.mk (blk_below hg1 hb2)
    have HS := Aside0.mk HB1.out.size
    have HT2 := Aside0.mk hT2
    clear hT2 hb2 hcl hT1 c0 hg1
    generalize w1.heap.size = b2 at HT2 z1 HS ⊢
    go_wp2_with (fail)
    go_loopw [21] (fun v21 wr => ∃ (k : Nat) (T' : List S23), k ≤ l.length ∧ v21 = .int .i64 k ∧ Aside0 (Below w.heap.size w wr) ∧ Aside0 (TMap wr b2 (N + k) T') ∧ Aside0 (addAll T l = addAll T' (l.drop k))) (fun v21 _ => l.length - (intOf v21).toNat)
    case atStart => exact ⟨0, T, Nat.zero_le _, rfl, ⟨HB2.out⟩, ⟨HT2.out⟩, ⟨by simp⟩⟩
    case round =>
      as_aux_lemma =>
        clear HB2 HG2 HT2
        obtain ⟨k, T', hk, rfl, HB, HM, HE⟩ := hrel
        by_cases hlt : k < l.length
        · have hk1 : k + 1 ≤ l.length := hlt
          obtain ⟨ad, rfl, h0, h1, h2⟩ := row_cells (Kd.C_below HR.out HB.out) k hlt
          have hd := HE.out
          rw [drop_cons hlt] at hd
          have hmay : MayR l[k] := by
            have := List.any_eq_false.1 HA.out l[k] (List.getElem_mem hlt)
            simpa using this
          generalize l[k] = x at h0 h1 h2 hd hmay
          have HD := Aside0.mk hd
          have HX := Aside0.mk hmay
          have hwf : (Lit.int .i64 x.f0).wf = true := wf_of (by have := hmay.1; omega) (by have := hmay.2.1; omega)
          clear hd hmay HE
          obtain ⟨x0, x1, x2⟩ := x
          simp only at h0 h1 h2 hwf
          have hl := TMap.look (HM.out.below (below_alloc (Below.refl _ _) (.cells #[.int .i64 x0, .int .i64 x1, .int .i64 x2] 23))) hwf
          cases hq : findT T' x0 with
          | some y =>
            as_aux_lemma =>
              rw [hq] at hl
              simp only [rowV, Option.getD_some, Option.isSome_some] at hl
              go_wp2_with (fail)
              go_ret
              have e1 : addR T l = (T, 16) := by
                have : addAll T l = none := by
                  rw [HD.out]
                  unfold addAll
                  rw [hq]
                unfold addR
                rw [if_neg (by rw [HA.out]; simp), this]
              rw [e1]
              have hb := below_alloc (below_alloc HB.out (.cells #[.int .i64 x0, .int .i64 x1, .int .i64 x2] 23)) (.cells #[.int .i64 y.f0, .int .i64 y.f1, .int .i64 y.f2] 23)
              exact ⟨rfl, (HT.out.below hb).mono (by omega), grown_of_below hb _⟩
          | none =>
            as_aux_lemma =>
              rw [hq] at hl
              simp only [rowV, Option.getD_none, Option.isSome_none] at hl
              have hT5 := HM.out.below (below_alloc (below_alloc (Below.refl _ _) (.cells #[.int .i64 x0, .int .i64 x1, .int .i64 x2] 23)) (.cells #[.int .i64 0, .int .i64 0, .int .i64 0] 23))
              go_wp2_with (at_mapUpdate; refine wp_put rfl _ _ _ rfl hT5 (by omega) ⟨x0, x1, x2⟩ HX.out rfl rfl rfl ?_; intro w6 hT6 hg6)
              have hb := below_alloc (below_alloc HB.out (.cells #[.int .i64 x0, .int .i64 x1, .int .i64 x2] 23)) (.cells #[.int .i64 0, .int .i64 0, .int .i64 0] 23)
              refine ⟨⟨k + 1, putT ⟨x0, x1, x2⟩ T', hk1, by go_num, ⟨hb.grown hg6 hb.size (fun j hj => by obtain rfl := Option.some.inj hj; exact HS.out)⟩, ⟨hT6.mono (by omega)⟩, ⟨?_⟩⟩, by simp [intOf]; omega⟩
              rw [HD.out]
              conv => lhs; unfold addAll
              rw [hq]
        · have : k = l.length := by omega
          subst this
          obtain ⟨b9, hg9, -⟩ := HT.out
          have hg3 := blk_below hg9 HB.out
          have f3 := blk_frozen hg3 0
          have c3 : wr.cell? ⟨g, 0, none⟩ = some (.map (some b9)) := (blk_cell hg3 0).trans rfl
          go_wp2_with (fail)
          go_ret
          have hAA : addAll T l = some T' := by
            rw [HE.out, List.drop_length]
            rfl
          have e1 : addR T l = (T', 0) := by
            unfold addR
            rw [if_neg (by rw [HA.out]; simp), hAA]
          rw [e1]
          have hgr : wr.grownBy (wr.setCell ⟨g, 0, none⟩ (.map (some b2))) (some g) := grown_set _ _ _ _
          have hne : b2 ≠ g := by have := HS.out; omega
          refine ⟨rfl, ⟨b2, by simpa using blk_set hg3 0 (.map (some b2)), HM.out.kept hgr (fun e => hne (Option.some.inj e))⟩, grown_trans (grown_of_below HB.out (some g)) hgr (fun j hj => .inr hj)⟩
end Go.Proofs.Ytcjeegomonegpaa.PLivePlays
namespace Go.Proofs.Ytcjeegomonegpaa.PLivePlays
open Go.RowKit Go.Maps Go.Shelf Go.Proofs.YtcjeegomonegpaaW.PrintWords Go.Proofs.YtcjeegomonegpaaW.PrintLast Go.Proofs.YtcjeegomonegpaaW.PrintMore
attribute [local go_sem] Oper.semAt_some
set_option linter.unusedVariables false
set_option linter.unusedSimpArgs false
def Came (T : List S23) (left : Lit → Bool) (ps : List S23) : Prop :=
  ps.Nodup ∧ (∀ x ∈ ps, x ∈ T ∧ left (.int .i64 x.f0) = false) ∧ (∀ x ∈ T, left (.int .i64 x.f0) = true ∨ x ∈ ps) ∧ ∀ kl, left kl = true → ∃ x ∈ T, kl = .int .i64 x.f0
theorem Came.start {D : DataW Unit} {T : List S23} (h : MapOf D T) : Came T (Maps.has D) [] :=
  ⟨List.nodup_nil, by simp, fun x hx => .inl ((h.2.2.1 _).2 ⟨x, hx, rfl⟩), fun kl hk => (h.2.2.1 kl).1 hk⟩
theorem sorted_inj {T : List S23} (hT : T.Pairwise (fun x y => x.f0 < y.f0)) {x y : S23} (hx : x ∈ T) (hy : y ∈ T) (e : x.f0 = y.f0) : x = y := by
  induction T with
  | nil => simp at hx
  | cons z T ih =>
    obtain ⟨h1, h2⟩ := List.pairwise_cons.1 hT
    rcases List.mem_cons.1 hx with e1 | hx
    · rcases List.mem_cons.1 hy with e2 | hy
      · exact e1.trans e2.symm
      · have := h1 y hy
        rw [e1] at e
        omega
    · rcases List.mem_cons.1 hy with e2 | hy
      · have := h1 x hx
        rw [e2] at e
        omega
      · exact ih h2 hx hy
theorem Came.step {T : List S23} (hT : T.Pairwise (fun x y => x.f0 < y.f0)) {left : Lit → Bool} {ps : List S23} {x : S23} (h : Came T left ps) (hx : x ∈ T) (hl : left (.int .i64 x.f0) = true) : Came T (fun z => left z && !z.sameKey (.int .i64 x.f0)) (ps ++ [x]) := by
  obtain ⟨h1, h2, h3, h4⟩ := h
  have self : (Lit.int .i64 x.f0).sameKey (.int .i64 x.f0) = true := by simp [Lit.sameKey]
  refine ⟨?_, fun z hz => ?_, fun z hz => ?_, fun kl hk => h4 kl (by simp at hk; exact hk.1)⟩
  · refine List.nodup_append.2 ⟨h1, by simp, ?_⟩
    intro a ha b hb e
    simp at hb
    subst hb; subst e
    rw [(h2 a ha).2] at hl
    cases hl
  · rcases List.mem_append.1 hz with hz | hz
    · exact ⟨(h2 z hz).1, by simp [(h2 z hz).2]⟩
    · simp at hz
      subst hz
      exact ⟨hx, by simp [self]⟩
  · by_cases e : z = x
    · exact .inr (by simp [e])
    · have hne : z.f0 ≠ x.f0 := fun e' => e (sorted_inj hT hz hx e')
      rcases h3 z hz with h | h
      · refine .inl ?_
        simp [h, Lit.sameKey, hne]
      · exact .inr (by simp [h])
theorem Came.perm {T : List S23} (hT : T.Pairwise (fun x y => x.f0 < y.f0)) {left : Lit → Bool} {ps : List S23} (h : Came T left ps) (hl : ∀ kl, left kl = false) : ps.Perm T := by
  have hT' : T.Nodup := hT.imp (fun h e => by rw [e] at h; omega)
  refine (List.perm_ext_iff_of_nodup h.1 hT').2 fun x => ⟨fun hx => (h.2.1 x hx).1, fun hx => ?_⟩
  rcases h.2.2.1 x hx with h | h
  · rw [hl] at h
    cases h
  · exact h
theorem val_calls (F : Fence) (n : Nat) (hf : F.fn 46) (hro : F.round = none) (mb : Option Nat) (w : World) :
    CallsIn F n Try.prog 46 #[.map mb] w fun e w' => e = .returned (.func (.func 63) #[] #[.pointer (some ⟨w.heap.size, 0, none⟩)]) ∧ w' = w.alloc (.cells #[.map mb] 77) := by
  have hu77 := Try.underlying77
  refine callsIn_of_wp Try.func46 rfl hf ?_ hro
  simp only [Try.ntmps46, List.size_toArray, List.length_cons, List.length_nil, Nat.reduceAdd, Nat.reduceSub, Array.replicate_succ, Array.replicate_zero, List.push_toArray, List.append_toArray, List.nil_append, List.cons_append]
  gi_wp2
  go_ret
  exact ⟨rfl, rfl⟩
set_option maxRecDepth 100000 in
set_option maxHeartbeats 2000000 in
theorem values_in (F : Fence) (n : Nat) (h8 : F.fn 63) (hro : F.round = none) (hn : 1 ≤ n) (l Bm b N : Nat) (T : List S23) (J Jx : List S23 → World → Prop)
    (hY : ∀ pre x W, J pre W → pre.length < N → YieldAt F (n - 1) Try.prog l #[rowV x] W fun e W' =>
      (e = .returned (.bool true) ∧ J (pre ++ [x]) W' ∧ KeepsWalks W W') ∨ (e = .returned (.bool false) ∧ Jx (pre ++ [x]) W'))
    (W : World) (hJ : AbidesFrom W.heap.size J) (hm : W.cell? ⟨Bm, 0, none⟩ = some (.map (some b))) (hT : TMap W b N T) (h0 : J [] W) :
    CallsIn F n Try.prog 63 #[.func (.yield l) #[] #[], .pointer (some ⟨Bm, 0, none⟩)] W fun e W' => (∃ v, e = .returned v) ∧
      ((∃ xs, xs.Perm T ∧ J xs W') ∨ (∃ pre, True ∧ Jx pre W')) := by
  obtain ⟨hTN, D, hown, hD⟩ := hT
  have hu77 := Try.underlying77
  have hu23 := Try.underlying23
  have hu28 := Try.underlying28
  refine callsIn_of_wp Try.func63 rfl h8 ?_ hro
  simp only [Try.ntmps63, List.size_toArray, List.length_cons, List.length_nil, Nat.reduceAdd, Nat.reduceSub, Array.replicate_succ, Array.replicate_zero, List.push_toArray, List.append_toArray, List.nil_append, List.cons_append]
  have HD := Aside0.mk hD
  have HO := Aside0.mk hown
  clear hD
  gi_wp2_with (first
    | (gi_at_range; refine wpListIn_range_own _ rfl _ 77 rfl 3 23 keyed3 Try.underlying77 _ b N _ rfl hown ?_; intro w0 hrg0 hg0 hs0)
    | gi_in)
  go_frame
  gi_loopw [4] (fun _ wr => ∃ (left : Lit → Bool) (cnt : Nat) (ps : List S23), wr.ranges Try.prog 3 rowR b W.heap.size N D left cnt ∧ ps.length + cnt ≤ N ∧ Came T left ps ∧ J ps wr)
    (fun _ wr => wr.rangeLeft b W.heap.size)
  case atStart =>
    exact ⟨_, _, [], hrg0, by simpa using HO.out.size_le, Came.start HD.out, hJ [] W w0 none h0 hg0 (fun r e => by cases e)⟩
  case round =>
    obtain ⟨left, cnt, ps, hrg, hcs, hC, hJs⟩ := hrel
    clear hown
    gi_wp2_with (first
      | (gi_at_next; refine wpListIn_next_ranges _ rfl _ rfl 3 keyed3 rowR (Value.int .i64) rowV (fun key kl hk => by obtain ⟨x, hx, _⟩ := Maps.keyOf_int_inv Try.underlying3 hk; exact ⟨x, hx⟩) (fun v y hv => by obtain ⟨c, rfl, _⟩ := rowR_inv hv; exact ⟨c, rfl⟩) b W.heap.size N _ _ _ rfl hrg ?_ ?_)
      | gi_in)
    · intro hc0 hl0
      gi_wp2
      go_end0
      exact ⟨⟨_, rfl⟩, .inl ⟨ps, hC.perm HD.out.1 hl0, hJs⟩⟩
    · intro k c kl yd yp w2 cnt2 hkey hlk hv hat hrg2 hlt hg2 hs2 hen
      obtain ⟨k', ek, rfl, _⟩ := Maps.keyOf_int_inv Try.underlying3 hkey
      obtain rfl : k = k' := by simpa using ek
      obtain ⟨x, hx, ex⟩ := hC.2.2.2 _ hlk
      injection ex with _ ex
      subst ex
      have hcx : x = c := by
        rw [rowR_mk] at hv
        have h1 := (Prod.mk.inj (Option.some.inj hv)).1
        refine rowD_inj ?_
        rw [← HD.out.2.2.2 x hx (rowD x), hat, h1]
      subst hcx
      have hC2 := hC.step HD.out.1 hx hlk
      have hJ2 : J ps w2 := hJ ps wr w2 (some W.heap.size) hJs hg2 (fun r e => by cases e; exact ⟨Nat.le_refl _, hrg.iter_walk⟩)
      have hcnt : ps.length < N := by omega
      have HC2 := Aside0.mk hC2
      have HL := Aside0.mk hrg.left_eq
      clear hs2 hC2 hC hrg hkey hv hat hlk hx
      obtain ⟨x0, x1, x2⟩ := x
      simp only [rowV] at hen
      have hJ3 : J ps (w2.alloc (.cells #[.int .i64 x0, .int .i64 x1, .int .i64 x2] 23)) := hJ ps w2 _ none hJ2 (World.grownBy_alloc w2 _ none) (fun r e => by cases e)
      have hrg3 := hrg2.alloc (.cells #[.int .i64 x0, .int .i64 x1, .int .i64 x2] 23)
      obtain ⟨fn, tmps, assign, body, hy, hR⟩ := hY ps ⟨x0, x1, x2⟩ _ hJ3 hcnt
      simp only [rowV] at hy
      gi_wp2
      refine hR.mono ?_
      rintro e W3 (⟨rfl, hJ4, hk4⟩ | ⟨rfl, hJx4⟩)
      · gi_wp2
        have hrg4 := hrg3.of_walks hk4
        go_roundw
        case rel => exact ⟨_, cnt2, ps ++ [⟨x0, x1, x2⟩], hrg4, by simp; omega, HC2.out, hJ4⟩
        case measure => rw [hrg4.left_eq, HL.out]; exact hlt
      · gi_wp2
        refine bodyPost_ret (results_none rfl _ _ _) rfl ?_
        exact ⟨⟨_, rfl⟩, .inr ⟨ps ++ [⟨x0, x1, x2⟩], trivial, hJx4⟩⟩
theorem values_stops (F : Fence) (n : Nat) (h8 : F.fn 63) (hro : F.round = none) (hn : 1 ≤ n) (Bm b N : Nat) (T : List S23) (w : World) (hBm : Bm < w.heap.size) (hm : w.cell? ⟨Bm, 0, none⟩ = some (.map (some b))) (hT : TMap w b N T) :
    SeqStops F n Try.prog 63 #[.pointer (some ⟨Bm, 0, none⟩)] rowV (fun xs => xs.Perm T) (fun _ => True) N w := fun l J Jx W hW hJ _ hY h0 =>
  values_in F n h8 hro hn l Bm b N T J Jx hY W hJ ((hW.cell (p := ⟨Bm, 0, none⟩) hBm).trans hm) (hT.below hW) h0
def RowBox (W : World) (B : Nat) (x : S23) : Prop := W.heap[B]? = some (.cells #[.int .i64 x.f0, .int .i64 x.f1, .int .i64 x.f2] 23 (0, 0))
def flatR (l : List S23) : List Value := l.flatMap rowL
theorem flatR_snoc (l : List S23) (x : S23) : flatR (l ++ [x]) = flatR l ++ rowL x := by simp [flatR]
theorem rowBox_own (B0 B : Nat) (f : S23) : OwnFrom B0 (fun (_ : Unit) W => RowBox W B f) := fun _ X Y row h hg hr => by
  refine (hg.block B (blk_lt h) (fun e => ?_)).trans h
  obtain ⟨_, o, ho, hc⟩ := hr B e.symm
  rw [show X.heap[B]? = _ from h] at ho
  cases ho
  cases hc
theorem info23 : (Try.prog.info? 23).map (fun i => (i.zero, i.size, i.bytes)) = some (some (rowV ⟨0, 0, 0⟩), 3, 24) := by kernel_rfl
theorem new_row (w : World) (x : S23) : ∀ j u, (rowL x)[j]? = some u → (w.alloc (.cells #[.int .i64 x.f0, .int .i64 x.f1, .int .i64 x.f2] 23)).cell? ((⟨w.heap.size, 0, none⟩ : Addr).add j) = some u := by
  intro j u hj
  have h := blk_new w (.cells #[.int .i64 x.f0, .int .i64 x.f1, .int .i64 x.f2] 23)
  have hjl : j < 3 := by
    have := (List.getElem?_eq_some_iff.1 hj).1
    simpa [rowL] using this
  have e : (⟨w.heap.size, 0, none⟩ : Addr).add j = ⟨w.heap.size, j, none⟩ := by unfold Addr.add; split <;> simp
  rw [e, blk_cell h, ← hj]
  match j, hjl with
  | 0, _ => rfl
  | 1, _ => rfl
  | 2, _ => rfl
set_option maxRecDepth 100000 in
set_option maxHeartbeats 2000000 in
theorem appendseq_in (F : Fence) (n : Nat) (h79 : F.fn 79) (hro : F.round = none) (hn : 2 ≤ n) (gf : Nat) (lb : Array Value) (hFg : F.fn gf) (eg : ∀ args w, (callFunc gf args).run Try.prog w = .ok (.enter gf args) w)
    (S : List S23 → Prop) (N : Nat) (hN : N ≤ 1000000) (w : World) (hseq : SeqStops F (n - 1) Try.prog gf lb rowV S (fun _ => True) N w) :
    CallsIn F n Try.prog 79 #[.slice none 0 0, .func (.func gf) #[] lb] w fun e w' => ∃ xs v, e = .returned v ∧ S xs ∧ w'.ownsRow w.heap.size 23 3 v xs.length (flatR xs) ∧ Below w.heap.size w w' := by
  have h1 : 1 ≤ n := by omega
  have hu28 := Try.underlying28
  have hu23 := Try.underlying23
  refine callsIn_of_wp_marks Try.func79 rfl h79 ?_ hro
  simp only [Try.ntmps79, List.size_toArray, List.length_cons, List.length_nil, Nat.reduceAdd, Nat.reduceSub, Array.replicate_succ, Array.replicate_zero, List.push_toArray, List.append_toArray, List.nil_append, List.cons_append]
  gi_wp2
  refine wpIn_rangeFunc_ownH hro h1 (gf := gf) (lb := lb) rfl hFg eg
    hseq walksK_t walksK_b (below_alloc (Below.refl _ w) _) (fun _ => rfl)
    (fun pre W => (∃ v, Boxed W w.heap.size 28 v ∧ W.ownsRow w.heap.size 23 3 v pre.length (flatR pre) ∧ True) ∧ Below w.heap.size w W)
    (fun _ _ _ => False)
    (OwnFrom.and (Own.from (holdsRow_own w.heap.size w.heap.size 28 23 3 (fun pre => pre.length) flatR (fun _ _ => True)) _) (ownFrom_below (Nat.le_refl _) (by simp)))
    (fun _ _ _ _ _ hs _ _ => hs)
    ⟨⟨_, Boxed.new w 28 _, World.ownsRow_nil _ _ _ _, trivial⟩, below_alloc (Below.refl _ w) _⟩
    (fun x a' W => ∃ Bx, w.heap.size < Bx ∧ RowBox W Bx x ∧ a' = { tmps := #[.slice none 0 0, .func (.func gf) #[] lb, .pointer (some ⟨w.heap.size, 0, none⟩), undef, .slice none 0 0, .pointer (some ⟨Bx, 0, none⟩), .func (.func gf) #[] lb, rowV x, undef, undef, undef, undef, undef], defers := [] })
    (fun x a' s X Y row ⟨Bx, hBx, hb, ha⟩ hg hr => ⟨Bx, hBx, rowBox_own _ Bx x () X Y row hb hg hr, ha⟩) ?assign ?body ?done ?stop
  case assign =>
    intro l pre x W K hi hK
    obtain ⟨x0, x1, x2⟩ := x
    obtain ⟨⟨v, hv, hrow, -⟩, hB⟩ := hi
    simp only [rowV] at hK ⊢
    gi_wp2
    exact hK _ _ ((KeepsOthers.alloc _ _).from _) (KeepsOthers.alloc _ _).walks ⟨⟨v, hv.alloc _, hrow.alloc _, trivial⟩, below_alloc hB _⟩ ⟨W.heap.size, hv.lt, blk_new W _, rfl⟩
  case body =>
    rintro l pre x a' W hl ⟨r, hr⟩ ⟨⟨v, hv, hrow, -⟩, hB⟩ ⟨Bx, hBx, bX, rfl⟩ hlt
    obtain ⟨x0, x1, x2⟩ := x
    obtain ⟨i0, hi, hz0, hz1, hz2⟩ := info_parts info23
    have hvc := hv.cell
    have hvf := hv.frozen
    have b0 : W.cell? ⟨Bx, 0, none⟩ = some (.int .i64 x0) := (blk_cell bX 0).trans rfl
    have b1 : W.cell? ⟨Bx, 1, none⟩ = some (.int .i64 x1) := (blk_cell bX 1).trans rfl
    have b2 : W.cell? ⟨Bx, 2, none⟩ = some (.int .i64 x2) := (blk_cell bX 2).trans rfl
    have hnews := new_row W ⟨x0, x1, x2⟩
    gi_wp2_with (gi_at_builtin; refine wpListIn_append_own _ rfl _ _ 28 rfl w.heap.size 23 i0 (rowV ⟨0, 0, 0⟩) 3 24 Try.underlying28 hi hz0 hz1 hz2 rfl (by decide) _ _ _ rfl (hrow.alloc _) ⟨W.heap.size, 0, none⟩ 1 1 (rowL ⟨x0, x1, x2⟩) rfl rfl hnews (by simp [rowL, Value.oneCell']) (by unfold maxLen; omega) (by omega) (by have := hB.size; simp; omega) ?_; intro v' w1 hown' hgrow _; obtain ⟨g', cap', rfl⟩ := ownsRow_succ hown'; obtain ⟨hv1, hv2, hr2, hk2, hb2⟩ := hv.appended (by decide) hrow hB.size (Nat.le_refl _) hown' hgrow; have hc1 := hv1.cell; have hf1 := hv1.frozen)
    exact ⟨hk2.from _, hk2.walks, ⟨⟨_, hv2, by rw [List.length_append, flatR_snoc]; exact hr2⟩, hB.trans hb2⟩⟩
  case done =>
    rintro D xs W hD hS ⟨⟨v, hv, hrow, -⟩, hB⟩ hK
    have hvc := hv.cell
    gi_wp2
    refine ⟨by simp, .inl ⟨_, _, rfl, run_takeDeferred hK, ?_⟩⟩
    exact ⟨_, results_tmp rfl _ _ _, xs, v, rfl, hS, ownsRow_putObj hrow _ hK rfl, hB.trans (belowK_b (w := w) (Nat.le_refl _) W D _ _ (by simp at hD; omega) hK rfl rfl)⟩
  case stop =>
    rintro D c pre W hD _ h _
    exact h.elim
set_option maxHeartbeats 1000000 in
theorem collect_in (F : Fence) (n : Nat) (h62 : F.fn 62) (h79 : F.fn 79) (hro : F.round = none) (hn : 3 ≤ n) (gf : Nat) (lb : Array Value) (hFg : F.fn gf) (eg : ∀ args w, (callFunc gf args).run Try.prog w = .ok (.enter gf args) w)
    (S : List S23 → Prop) (N : Nat) (hN : N ≤ 1000000) (w : World) (hseq : SeqStops F (n - 1 - 1) Try.prog gf lb rowV S (fun _ => True) N w) :
    CallsIn F n Try.prog 62 #[.func (.func gf) #[] lb] w fun e w' => ∃ xs v, e = .returned v ∧ S xs ∧ w'.ownsRow w.heap.size 23 3 v xs.length (flatR xs) ∧ Below w.heap.size w w' := by
  have H := appendseq_in F (n - 1) h79 hro (by omega) gf lb hFg eg S N hN w hseq
  clear hseq
  have h1 : 1 ≤ n := by omega
  refine callsIn_of_wp Try.func62 rfl h62 ?_ hro
  simp only [Try.ntmps62, List.size_toArray, List.length_cons, List.length_nil, Nat.reduceAdd, Nat.reduceSub, Array.replicate_succ, Array.replicate_zero, List.push_toArray, List.append_toArray, List.nil_append, List.cons_append]
  gi_wp2_with (gi_at_call 79; refine H.mono ?_; rintro e w' ⟨xs, v, rfl, h2, h3, h4⟩)
  go_ret
  exact ⟨xs, _, rfl, h2, h3, h4⟩
theorem collect_calls (b N : Nat) (hN : N ≤ 1000000) (T : List S23) (w : World) (Bm : Nat) (hm : w.heap[Bm]? = some (.cells #[.map (some b)] 77 (0, 0))) (hT : TMap w b N T) :
    Calls Try.prog 62 #[.func (.func 63) #[] #[.pointer (some ⟨Bm, 0, none⟩)]] w fun e w' => ∃ xs v, e = .returned v ∧ xs.Perm T ∧ w'.ownsRow w.heap.size 23 3 v xs.length (flatR xs) ∧ Below w.heap.size w w' :=
  (callsIn_wide (n := 5)).1 (collect_in Fence.wide 5 trivial trivial rfl (by omega) 63 _ trivial (enters_of Try.func63 (by kernel_rfl) rfl) (fun xs => xs.Perm T) N hN w
    (values_stops Fence.wide 3 trivial rfl (by omega) Bm b N T w (blk_lt hm) ((blk_cell hm 0).trans rfl) hT))
theorem val_plain (mb : Option Nat) (w : World) : Calls Try.prog 46 #[.map mb] w fun e w' => e = .returned (.func (.func 63) #[] #[.pointer (some ⟨w.heap.size, 0, none⟩)]) ∧ w' = w.alloc (.cells #[.map mb] 77) :=
  (callsIn_wide (n := 5)).1 (val_calls Fence.wide 5 trivial rfl mb w)
end Go.Proofs.Ytcjeegomonegpaa.PLivePlays
namespace Go.Proofs.Ytcjeegomonegpaa.PLivePlays
open Go.RowKit Go.Maps Go.Sort Go.Proofs.YtcjeegomonegpaaW.PrintWords Go.Proofs.YtcjeegomonegpaaW.PrintLast Go.Proofs.YtcjeegomonegpaaW.PrintMore
set_option linter.unusedVariables false
set_option linter.unusedSimpArgs false
instance : Inhabited S23 := ⟨⟨1, 0, 0⟩⟩
theorem rowL_len (x : S23) : (rowL x).length = 3 := rfl
theorem rowL_one (x : S23) : ∀ v ∈ rowL x, v.oneCell' = true := by
  intro v hv
  simp [rowL] at hv
  rcases hv with rfl | rfl | rfl <;> rfl
theorem flatR_get : ∀ (l : List S23) (i c : Nat) (hi : i < l.length) (hc : c < 3), (flatR l)[i * 3 + c]? = (rowL l[i])[c]?
  | [], i, c, hi, _ => by simp at hi
  | x :: l, 0, c, hi, hc => by
    have : flatR (x :: l) = rowL x ++ flatR l := by simp [flatR]
    rw [this, List.getElem?_append_left (by rw [rowL_len]; omega)]
    simp
  | x :: l, i + 1, c, hi, hc => by
    have : flatR (x :: l) = rowL x ++ flatR l := by simp [flatR]
    rw [this, List.getElem?_append_right (by rw [rowL_len]; omega), rowL_len, show (i + 1) * 3 + c - 3 = i * 3 + c by omega, flatR_get l i c (by simpa using hi) hc]
    rfl
theorem holdsK_of_cells {enc : S23 → List Value} {w : World} {g off : Nat} {d : Array S23} (h : ∀ i, i < d.size → ∀ c, c < 3 → w.cell? ⟨g, off + i * 3 + c, none⟩ = some (enc d[i]!)[c]! ∧ w.frozen? ⟨g, off + i * 3 + c, none⟩ = false) : HoldsK enc 3 w g off d := by
  intro t ht
  rw [size_flatK] at ht
  have h1 := h (t / 3) (by omega) (t % 3) (by omega)
  have e : off + t / 3 * 3 + t % 3 = off + t := by omega
  rw [e] at h1
  rw [get_flatK _ _ _ _ ht]
  exact h1
def SlR (w : World) (base : Nat) (v : Value) (l : List S23) : Prop :=
  (v = .slice none 0 0 ∧ l = []) ∨ ∃ g o cap, v = .slice (some ⟨g, o, none⟩) l.length cap ∧ base ≤ g ∧ g < w.heap.size ∧ l.length ≤ cap ∧ HoldsK rowL 3 w g o l.toArray
theorem rowL_bang (x : S23) (c : Nat) (hc : c < 3) : (rowL x)[c]? = some (rowL x)[c]! := by
  match c, hc with
  | 0, _ => rfl
  | 1, _ => rfl
  | 2, _ => rfl
theorem arr_bang (l : List S23) (i : Nat) (hi : i < l.length) : l.toArray[i]! = l[i] := by
  rw [getElem!_pos l.toArray i (by simpa using hi)]
  simp
theorem SlR.of_own {w : World} {base : Nat} {v : Value} {l : List S23} (h : w.ownsRow base 23 3 v l.length (flatR l)) : SlR w base v l := by
  obtain ⟨h0, h1⟩ := h
  rcases h1 with ⟨rfl, h1⟩ | ⟨g, cap, cur, rfl, hb, hg, hc, _, hs, ht⟩
  · exact .inl ⟨rfl, List.eq_nil_of_length_eq_zero h1⟩
  · refine .inr ⟨g, 0, cap, rfl, hb, blk_lt hg, hc, holdsK_of_cells fun i hi c hc => ⟨?_, ?_⟩⟩
    · have hi' : i < l.length := by simpa using hi
      have h2 := flatR_get l i c hi' hc
      rw [← ht, List.getElem?_take_of_lt (by omega), rowL_bang _ _ hc] at h2
      rw [blk_cell hg, Nat.zero_add, arr_bang l i hi']
      simpa using h2
    · exact blk_frozen hg _
theorem SlR.below {w w' : World} {base : Nat} {v : Value} {l : List S23} (h : SlR w base v l) (hb : Below w.heap.size w w') : SlR w' base v l := by
  rcases h with h | ⟨g, o, cap, h1, h2, h3, h4, h5⟩
  · exact .inl h
  · refine .inr ⟨g, o, cap, h1, h2, Nat.lt_of_lt_of_le h3 hb.size, h4, fun t ht => ?_⟩
    obtain ⟨q1, q2⟩ := h5 t ht
    have := hb.block g h3
    refine ⟨?_, ?_⟩
    · rw [World.cell?_of_block (a := ⟨g, o + t, none⟩) this]; exact q1
    · rw [World.frozen?_of_block (a := ⟨g, o + t, none⟩) this]; exact q2
theorem reads_of_holds {w : World} {g o : Nat} {l : List S23} (h : HoldsK rowL 3 w g o l.toArray) (hm : l.length ≤ 9223372036854775807) : Kd.C k23 w (some ⟨g, o, none⟩) l.length l := by
  refine ⟨rfl, hm, fun _ => ⟨_, rfl, fun j p hp => ⟨rowL p, rfl, k23_mk w p, fun i u hu => ?_⟩⟩⟩
  obtain ⟨hj, rfl⟩ := List.getElem?_eq_some_iff.1 hp
  have hi : i < 3 := by
    have := (List.getElem?_eq_some_iff.1 hu).1
    rwa [rowL_len] at this
  have h1 := (h.cell (i := j) (c := i) (by simpa using hj) hi).1
  rw [arr_bang l j hj] at h1
  have e : (⟨g, o, none⟩ : Addr).add (j * 3 + i) = ⟨g, o + j * 3 + i, none⟩ := by
    unfold Addr.add
    split
    · rename_i e0
      have e1 : j = 0 := by omega
      have e2 : i = 0 := by omega
      simp [e1, e2]
    · simp [Nat.add_assoc]
  show w.cell? ((⟨g, o, none⟩ : Addr).add (j * 3 + i)) = some u
  rw [e]
  rw [rowL_bang _ _ hi] at hu
  rw [← Option.some.inj hu]
  exact h1
theorem SlR.reads {w : World} {base : Nat} {v : Value} {l : List S23} (h : SlR w base v l) (hm : l.length ≤ 1000000) : ∃ A c, v = .slice A l.length c ∧ l.length ≤ c ∧ Kd.C k23 w A l.length l := by
  rcases h with ⟨rfl, rfl⟩ | ⟨g, o, cap, rfl, _, _, hc, hh⟩
  · exact ⟨none, 0, rfl, Nat.le_refl _, ⟨rfl, by simp, fun h => absurd h (Nat.lt_irrefl 0)⟩⟩
  · exact ⟨_, _, rfl, hc, reads_of_holds hh (by omega)⟩
end Go.Proofs.Ytcjeegomonegpaa.PLivePlays
namespace Go.Proofs.Ytcjeegomonegpaa.PLivePlays
open Go.RowKit Go.Maps Go.Sort Go.Proofs.YtcjeegomonegpaaW.PrintWords Go.Proofs.YtcjeegomonegpaaW.PrintLast Go.Proofs.YtcjeegomonegpaaW.PrintMore
set_option linter.unusedVariables false
set_option linter.unusedSimpArgs false
def dead (pct : Int) (x : S23) : Bool := decide (wrap64 (x.f2 * 100) ≥ wrap64 (pct * x.f1))
set_option maxRecDepth 100000 in
theorem vict1_calls (pct : Int) (Bp : Nat) (x : S23) (W : World) (hB : Boxed W Bp 3 (.int .i64 pct)) :
    Calls Try.prog 41 #[.agg #[.int .i64 x.f0, .int .i64 x.f1, .int .i64 x.f2], .pointer (some ⟨Bp, 0, none⟩)] W fun e w' => e = .returned (.bool (dead pct x)) ∧ Below W.heap.size W w' := by
  have hu3 := Try.underlying3
  have hu23 := Try.underlying23
  unfold dead
  obtain ⟨x0, x1, x2⟩ := x
  simp only
  have h1 := (hB.alloc (.cells #[.int .i64 x0, .int .i64 x1, .int .i64 x2] 23)).cell
  go_enter Try.func41, Try.ntmps41
  go_wp2
  go_ret
  exact ⟨rfl, below_alloc (Below.refl _ _) _⟩
theorem setMany_set (d : List S23) (i : Nat) (x : S23) (hi : i < d.length) : setMany (flatK rowL 3 d.toArray) (i * 3) (rowL x) = flatK rowL 3 (d.set i x).toArray := by
  refine ext_get! (by simp) fun t ht => ?_
  have ht' : t < d.length * 3 := by simpa using ht
  rw [get_setMany _ _ _ t (by simpa using ht'), get_flatK _ _ _ t (by simpa using ht'), get_flatK _ _ _ t (by simpa using ht'), rowL_len]
  have e1 : (d.set i x).toArray[t / 3]! = if t / 3 = i then x else d.toArray[t / 3]! := by
    rw [arr_bang _ _ (by rw [List.length_set]; omega), arr_bang _ _ (by omega), List.getElem_set]
    by_cases e : i = t / 3
    · rw [if_pos e, if_pos e.symm]
    · rw [if_neg e, if_neg (fun h => e h.symm)]
  rw [e1]
  by_cases h : i * 3 ≤ t ∧ t < i * 3 + 3
  · rw [if_pos h, if_pos (by omega), show t - i * 3 = t % 3 by omega]
  · rw [if_neg h, if_neg (by omega)]
theorem holds_set {W : World} {g o : Nat} {d : List S23} {i : Nat} {x : S23} (h : HoldsK rowL 3 W g o d.toArray) (hi : i < d.length) : HoldsK rowL 3 (W.setCells g (o + i * 3) (rowL x)) g o (d.set i x).toArray := by
  have e : W.setCells g (o + i * 3) (rowL x) = putRowK rowL 3 W g o (d.set i x).toArray := by
    conv => lhs; rw [← putRowK_self rowL 3 W g o d.toArray h]
    unfold putRowK
    rw [setCells_putRow _ _ _ _ _ _ (by rw [rowL_len, size_flatK]; simp; omega), setMany_set d i x hi]
  rw [e]
  exact holdsK_putRowK rowL 3 W g o d.toArray _ h (by simp)
theorem holds_grown {W W' : World} {g o : Nat} {d : Array S23} {row : Option Nat} (h : HoldsK rowL 3 W g o d) (hg : W.grownBy W' row) (hgs : g < W.heap.size) (hne : some g ≠ row) : HoldsK rowL 3 W' g o d := by
  intro t ht
  obtain ⟨q1, q2⟩ := h t ht
  have := hg.block g hgs hne
  refine ⟨?_, ?_⟩
  · rw [World.cell?_of_block (a := ⟨g, o + t, none⟩) this]; exact q1
  · rw [World.frozen?_of_block (a := ⟨g, o + t, none⟩) this]; exact q2
theorem holds_below {W W' : World} {g o : Nat} {d : Array S23} (h : HoldsK rowL 3 W g o d) (hb : Below W.heap.size W W') (hgs : g < W.heap.size) : HoldsK rowL 3 W' g o d := holds_grown h (grown_of_below hb none) hgs (by simp)
theorem grown_sets (g : Nat) : ∀ (vs : List Value) (o : Nat) (W : World), W.grownBy (W.setCells g o vs) (some g)
  | [], _, W => ⟨rfl, rfl, rfl, Nat.le_refl _, fun _ _ _ => rfl⟩
  | v :: vs, o, W => grown_trans (grown_set W g o v) (grown_sets g vs (o + 1) _) (fun j hj => .inr hj)
theorem holds_take {W W' : World} {g o : Nat} {d : List S23} {i : Nat} (h : HoldsK rowL 3 W g o d.toArray) (hi : i ≤ d.length) (hc : ∀ t, t < i * 3 → W'.cell? ⟨g, o + t, none⟩ = W.cell? ⟨g, o + t, none⟩ ∧ W'.frozen? ⟨g, o + t, none⟩ = W.frozen? ⟨g, o + t, none⟩) : HoldsK rowL 3 W' g o (d.take i).toArray := by
  refine holdsK_of_cells fun j hj c hc' => ?_
  have hj' : j < i := by
    simp at hj
    omega
  have h1 := h.cell (i := j) (c := c) (by simp; omega) hc'
  have h2 := hc (j * 3 + c) (by omega)
  rw [← Nat.add_assoc] at h2
  rw [h2.1, h2.2, arr_bang _ _ (by simpa using hj), List.getElem_take]
  rw [arr_bang _ _ (by omega)] at h1
  exact h1
theorem three_cells {W : World} {g o : Nat} {d : List S23} {i : Nat} (h : HoldsK rowL 3 W g o d.toArray) (hi : i < d.length) :
    (W.cell? ⟨g, o + i * 3, none⟩ = some (.int .i64 d[i].f0) ∧ W.cell? ⟨g, o + i * 3 + 1, none⟩ = some (.int .i64 d[i].f1) ∧ W.cell? ⟨g, o + i * 3 + 2, none⟩ = some (.int .i64 d[i].f2)) ∧
    W.frozen? ⟨g, o + i * 3, none⟩ = false ∧ W.frozen? ⟨g, o + i * 3 + 1, none⟩ = false ∧ W.frozen? ⟨g, o + i * 3 + 2, none⟩ = false := by
  have h0 := h.cell (i := i) (c := 0) (by simpa using hi) (by omega)
  have h1 := h.cell (i := i) (c := 1) (by simpa using hi) (by omega)
  have h2 := h.cell (i := i) (c := 2) (by simpa using hi) (by omega)
  rw [arr_bang _ _ hi] at h0 h1 h2
  exact ⟨⟨h0.1, h1.1, h2.1⟩, h0.2, h1.2, h2.2⟩
theorem zero23' (w : World) : (zeroValue 23).run Try.prog w = .ok (rowV ⟨0, 0, 0⟩) w := zero23 w
theorem clear_run {W : World} {g o : Nat} {d : List S23} {i cap : Nat} (h : HoldsK rowL 3 W g o d.toArray) (hi : i < d.length) :
    ∃ zs : List Value, ∀ ty, (Builtin.clear_ #[28] ty #[.slice (some ⟨g, o + i * 3, none⟩) (d.length - i) cap]).run Try.prog W = .ok (.tuple #[]) (W.setCells g (o + i * 3) zs) := by
  have hone : ∀ v ∈ (Builtin.zeroCells (rowV ⟨0, 0, 0⟩).cells (d.length - i)).toList, v.oneCell' = true := by
    intro v hv
    simp only [Builtin.zeroCells, rowV, Value.cells] at hv
    simp at hv
    obtain ⟨a, ha, rfl⟩ := hv
    have : a % 3 < 3 := Nat.mod_lt _ (by omega)
    match a % 3, this with
    | 0, _ => rfl
    | 1, _ => rfl
    | 2, _ => rfl
  have hlen : (Builtin.zeroCells (rowV ⟨0, 0, 0⟩).cells (d.length - i)).toList.length = (d.length - i) * 3 := by
    simp [Builtin.zeroCells, rowV, Value.cells, Nat.mul_comm]
  have hat : ∀ j, j < (d.length - i) * 3 → (W.cell? ⟨g, o + i * 3 + j, none⟩).isSome = true ∧ W.frozen? ⟨g, o + i * 3 + j, none⟩ = false := by
    intro j hj
    have h1 := h.cell (i := i + j / 3) (c := j % 3) (by simp; omega) (by omega)
    rw [show o + (i + j / 3) * 3 + j % 3 = o + i * 3 + j by omega] at h1
    rw [h1.1]
    exact ⟨rfl, h1.2⟩
  have hst := run_storeCells_cells (P := Try.prog) g (o + i * 3) (Builtin.zeroCells (rowV ⟨0, 0, 0⟩).cells (d.length - i)).toList 0 W (by rw [hlen]; exact fun j hj => (hat j hj).1) (by rw [hlen]; exact fun j hj => (hat j hj).2) hone
  simp only [Nat.add_zero] at hst
  obtain ⟨m, hm⟩ : ∃ m, d.length - i = m + 1 := ⟨d.length - i - 1, by omega⟩
  refine ⟨(Builtin.zeroCells (rowV ⟨0, 0, 0⟩).cells (d.length - i)).toList, fun ty => ?_⟩
  rw [hm] at hst ⊢
  simp only [rowV] at hst ⊢
  simp [Builtin.clear_, run_underlying Try.underlying28, zero23', rowV, hst]
theorem filter_step {p : S23 → Bool} {l : List S23} {k : Nat} (h : k < l.length) : (l.take (k + 1)).filter p = (l.take k).filter p ++ (if p l[k] then [l[k]] else []) := by
  rw [List.take_add_one, List.getElem?_eq_getElem h, List.filter_append]
  simp only [Option.toList_some]
  by_cases hp : p l[k] = true
  · simp [hp]
  · simp [hp]
set_option maxRecDepth 100000 in
set_option maxHeartbeats 4000000 in
theorem delete_calls (pct : Int) (Bp g o cap : Nat) (l : List S23) (w : World) (hH : HoldsK rowL 3 w g o l.toArray) (hgl : g < w.heap.size) (hne : Bp ≠ g) (hB : Boxed w Bp 3 (.int .i64 pct)) (hl : l.length ≤ 1000000) (hcap : l.length ≤ cap) :
    Calls Try.prog 40 #[.slice (some ⟨g, o, none⟩) l.length cap, .func (.func 41) #[] #[.pointer (some ⟨Bp, 0, none⟩)]] w fun e w' =>
      e = .returned (.slice (some ⟨g, o, none⟩) (l.filter fun x => !dead pct x).length cap) ∧ HoldsK rowL 3 w' g o (l.filter fun x => !dead pct x).toArray ∧ w.grownBy w' (some g) := by
  have hu28 := Try.underlying28
  have hu23 := Try.underlying23
  have hu3 := Try.underlying3
  have HH := Aside0.mk hH
  have HB := Aside0.mk hB
  have HI := index_calls 41 #[.pointer (some ⟨Bp, 0, none⟩)] (dead pct) (some ⟨g, o, none⟩) cap l w (reads_of_holds hH (by omega)) (enters_of Try.func41 (by kernel_rfl) rfl)
    (fun W x hb => vict1_calls pct Bp x W (blk_below hB hb))
  clear hH hB
  cases hf : l.findIdx? (dead pct) with
  | none =>
    have e1 : idxOf (dead pct) l = -1 := by unfold idxOf; rw [hf]
    have e2 : (l.filter fun x => !dead pct x) = l := by
      rw [List.filter_eq_self]
      intro x hx
      rw [List.findIdx?_eq_none_iff.1 hf x hx]
      rfl
    rw [e1] at HI
    rw [e2]
    clear e1 e2
    go_enter Try.func40, Try.ntmps40
    go_wp2_with (fail)
    refine HI.mono ?_
    rintro e w1 ⟨rfl, hb1⟩
    go_wp2_with (fail)
    go_ret
    exact ⟨rfl, holds_below HH.out hb1 hgl, grown_of_below hb1 _⟩
  | some k0 =>
    have e1 : idxOf (dead pct) l = (k0 : Int) := by unfold idxOf; rw [hf]
    obtain ⟨hk0, hd0, hd1⟩ := List.findIdx?_eq_some_iff_getElem.1 hf
    have e3 : (l.take k0).filter (fun x => !dead pct x) = l.take k0 := by
      rw [List.filter_eq_self]
      intro x hx
      obtain ⟨j, hj, rfl⟩ := List.getElem_of_mem hx
      rw [List.getElem_take]
      have := hd1 j (by simp at hj; omega)
      simpa using this
    have HF0 := Aside0.mk (show l.take k0 = (l.take (k0 + 1)).filter fun x => !dead pct x by rw [filter_step hk0, e3, hd0]; simp)
    rw [e1] at HI
    clear e1 e3 hd0 hd1 hf
    have hne1 : ((k0 : Int) == -1) = false := beq_eq_false_iff_ne.2 (by omega)
    go_enter Try.func40, Try.ntmps40
    go_wp2_with (fail)
    refine HI.mono ?_
    rintro e w1 ⟨rfl, hb1⟩
    have HB1 := Aside0.mk (blk_below HB.out hb1)
    have HH1 := Aside0.mk (holds_below HH.out hb1 hgl)
    have HG1 := Aside0.mk (grown_of_below hb1 (some g))
    clear hb1 HI
    go_wp2_with (fail)
    go_loopw [5, 6] (fun v5 v6 wr => ∃ (i k : Nat) (d : List S23), i < k ∧ k ≤ l.length ∧ d.length = l.length ∧ v5 = .int .i64 i ∧ v6 = .int .i64 k ∧ Aside0 (d.take i = (l.take k).filter fun x => !dead pct x) ∧ Aside0 (d.drop k = l.drop k) ∧ Aside0 (HoldsK rowL 3 wr g o d.toArray) ∧ Aside0 (w.grownBy wr (some g))) (fun _ v6 _ => l.length - (intOf v6).toNat)
    case atStart => exact ⟨k0, k0 + 1, l, by omega, by omega, rfl, rfl, by go_num, HF0, ⟨rfl⟩, HH1, HG1⟩
    case round =>
      as_aux_lemma =>
        clear HB1 HH1 HG1 HF0
        obtain ⟨i, k, d, hik, hk, hd, rfl, rfl, HT, HDr, HHd, HG⟩ := hrel
        have HBr := Aside0.mk (HB.out.kept HG.out (fun e => hne (Option.some.inj e)))
        have hgr : g < wr.heap.size := Nat.lt_of_lt_of_le hgl HG.out.size
        by_cases hlt : k < l.length
        · have hk1 : k + 1 ≤ l.length := hlt
          have hkd : k < d.length := by omega
          have hdk : d[k] = l[k] := by
            have h1 := congrArg (fun z => z[0]?) HDr.out
            simp only [List.getElem?_drop, Nat.add_zero] at h1
            rw [List.getElem?_eq_getElem hkd, List.getElem?_eq_getElem hlt] at h1
            exact Option.some.inj h1
          obtain ⟨⟨c0, c1, c2⟩, -⟩ := three_cells HHd.out hkd
          have HX := Aside0.mk (rfl : l[k] = l[k])
          rw [hdk] at c0 c1 c2
          clear hdk HX
          generalize hx : l[k] = x at c0 c1 c2
          have HX := Aside0.mk hx
          clear hx
          obtain ⟨x0, x1, x2⟩ := x
          simp only at c0 c1 c2
          have HBa := HBr.out.alloc (.cells #[.int .i64 x0, .int .i64 x1, .int .i64 x2] 23)
          have hcall := vict1_calls pct Bp ⟨x0, x1, x2⟩ _ HBa
          have HHa := Aside0.mk (holds_below HHd.out (below_alloc (Below.refl _ _) (.cells #[.int .i64 x0, .int .i64 x1, .int .i64 x2] 23)) hgr)
          have HGa := Aside0.mk (grown_trans HG.out (World.grownBy_alloc wr (.cells #[.int .i64 x0, .int .i64 x1, .int .i64 x2] 23) none) (fun j hj => by cases hj))
          have hnew := Aside0.mk (blk_new wr (.cells #[.int .i64 x0, .int .i64 x1, .int .i64 x2] 23))
          clear HBa
          cases hq : dead pct ⟨x0, x1, x2⟩ with
          | true =>
            as_aux_lemma =>
              rw [hq] at hcall
              go_wp2_with (fail)
              refine hcall.mono ?_
              rintro e w2 ⟨rfl, hb2⟩
              have hH2 := Aside0.mk (holds_below HHa.out hb2 (by simp; omega))
              have hG2 := Aside0.mk (grown_trans HGa.out (grown_of_below hb2 none) (fun j hj => by cases hj))
              clear hb2
              go_wp2_with (fail)
              refine ⟨⟨i, k + 1, d, by omega, hk1, hd, rfl, by go_num, ⟨?_⟩, ⟨?_⟩, hH2, hG2⟩, by simp [intOf]; omega⟩
              · rw [filter_step hlt, HX.out, hq]
                simpa using HT.out
              · have := congrArg (List.drop 1) HDr.out
                simpa [List.drop_drop] using this
          | false =>
            as_aux_lemma =>
              rw [hq] at hcall
              go_wp2_with (fail)
              refine hcall.mono ?_
              rintro e w2 ⟨rfl, hb2⟩
              have hH2 := Aside0.mk (holds_below HHa.out hb2 (by simp; omega))
              have hG2 := Aside0.mk (grown_trans HGa.out (grown_of_below hb2 none) (fun j hj => by cases hj))
              have bn := blk_below hnew.out hb2
              have bz := blk_lt bn
              have b0 : w2.cell? ⟨wr.heap.size, 0, none⟩ = some (.int .i64 x0) := (blk_cell bn 0).trans rfl
              have b1 : w2.cell? ⟨wr.heap.size, 1, none⟩ = some (.int .i64 x1) := (blk_cell bn 1).trans rfl
              have b2 : w2.cell? ⟨wr.heap.size, 2, none⟩ = some (.int .i64 x2) := (blk_cell bn 2).trans rfl
              obtain ⟨⟨q0, q1, q2⟩, f0, f1, f2⟩ := three_cells hH2.out (i := i) (by omega)
              clear hb2 bn
              go_wp2_with (fail)
              have hset := holds_set (x := ⟨x0, x1, x2⟩) hH2.out (i := i) (by omega)
              have hgs := grown_trans hG2.out (grown_sets g (rowL ⟨x0, x1, x2⟩) (o + i * 3) w2) (fun j hj => .inr hj)
              simp only [rowL, World.setCells] at hgs
              have eW : w2.setCells g (o + i * 3) (rowL ⟨x0, x1, x2⟩) = ((w2.setCell ⟨g, o + i * 3, none⟩ (.int .i64 x0)).setCell ⟨g, o + i * 3 + 1, none⟩ (.int .i64 x1)).setCell ⟨g, o + i * 3 + 1 + 1, none⟩ (.int .i64 x2) := rfl
              rw [eW] at hset
              rw [show o + i * 3 + 1 + 1 = o + i * 3 + 2 by omega] at hset hgs
              refine ⟨⟨i + 1, k + 1, d.set i ⟨x0, x1, x2⟩, by omega, hk1, by simp [hd], by go_num, by go_num, ⟨?_⟩, ⟨?_⟩, ⟨hset⟩, ⟨hgs⟩⟩, by simp [intOf]; omega⟩
              · rw [filter_step hlt, HX.out, hq, List.take_add_one, List.getElem?_set_self (by omega), List.take_set_of_le (by omega), HT.out]
                simp
              · rw [List.drop_set_of_lt (by omega)]
                have := congrArg (List.drop 1) HDr.out
                simpa [List.drop_drop] using this
        · have : k = l.length := by omega
          subst this
          obtain ⟨zs, hzs⟩ := clear_run (cap := cap - i) HHd.out (i := i) (by omega)
          rw [hd] at hzs
          go_wp2_with (fail)
          go_ret
          have e : (l.filter fun x => !dead pct x) = d.take i := by rw [HT.out, List.take_length]
          rw [e]
          have e2 : (d.take i).length = i := by rw [List.length_take]; omega
          rw [e2]
          exact ⟨rfl, holds_take HHd.out (by omega) (fun t ht => ⟨World.cell?_setCells_out g zs (o + i * 3) wr ⟨g, o + t, none⟩ (fun _ _ => Or.inl (by simp; omega)), World.frozen?_setCells g zs (o + i * 3) wr ⟨g, o + t, none⟩⟩), grown_trans HG.out (grown_sets g zs (o + i * 3) wr) (fun j hj => .inr hj)⟩
end Go.Proofs.Ytcjeegomonegpaa.PLivePlays
namespace Go.Proofs.Ytcjeegomonegpaa.PLivePlays
open Go.RowKit Go.Maps Go.Sort Go.Proofs.YtcjeegomonegpaaW.PrintWords Go.Proofs.YtcjeegomonegpaaW.PrintLast Go.Proofs.YtcjeegomonegpaaW.PrintMore
set_option linter.unusedVariables false
set_option linter.unusedSimpArgs false
def partB (x : S23) : Nat := if x.f1 = 0 then 4607182418800017408 else (floatBits .quo .f64 (floatOfInt .f64 x.f2) (floatOfInt .f64 x.f1)).getD 0
def PartOk (x : S23) : Prop := x.f1 = 0 ∨ ∃ r, floatBits .quo .f64 (floatOfInt .f64 x.f2) (floatOfInt .f64 x.f1) = some r
set_option maxRecDepth 100000 in
theorem part_calls (x : S23) (ho : PartOk x) (w : World) : Calls Try.prog 14 #[.agg #[.int .i64 x.f0, .int .i64 x.f1, .int .i64 x.f2]] w fun e w' => e = .returned (.float .f64 (partB x)) ∧ ∃ os, w' = grow w os := by
  have hu30 := Try.underlying30
  have hu3 := Try.underlying3
  have hu23 := Try.underlying23
  have hz := fun w => blk_new w (.cells #[.int .i64 x.f0, .int .i64 x.f1, .int .i64 x.f2] 23)
  by_cases h : x.f1 = 0
  · have hp : partB x = 4607182418800017408 := by unfold partB; rw [if_pos h]
    rw [hp]
    clear hz ho hp
    obtain ⟨x0, x1, x2⟩ := x
    simp only at h ⊢
    subst h
    go_enter Try.func14, Try.ntmps14
    go_wp2
    go_ret
    exact ⟨rfl, _, by rw [alloc_eq_grow]⟩
  · obtain ⟨r, hr⟩ : ∃ r, floatBits .quo .f64 (floatOfInt .f64 x.f2) (floatOfInt .f64 x.f1) = some r := by
      rcases ho with e | e
      · exact absurd e h
      · exact e
    have hp : partB x = r := by unfold partB; rw [if_neg h, hr]; rfl
    rw [hp]
    clear hz ho hp
    obtain ⟨x0, x1, x2⟩ := x
    simp only at h hr ⊢
    have hq := fun w => run_float_arith (P := Try.prog) w .quo 30 .f64 _ _ r hr
    go_enter Try.func14, Try.ntmps14
    go_wp2
    go_ret
    exact ⟨rfl, _, by rw [alloc_eq_grow]⟩
abbrev ordF (a b : Nat) : Option Ordering := FloatKind.f64.format.order a b
def nanF (a : Nat) : Bool := ordF a a != some .eq
def cmpF (a b : Nat) : Int := if nanF a then (if nanF b then 0 else -1) else if nanF b then 1 else if ordF a b == some .lt then -1 else if ordF a b == some .gt then 1 else 0
theorem nan_calls (a : Nat) (w : World) : Calls Try.prog 61 #[.float .f64 a] w fun e w' => e = .returned (.bool (nanF a)) ∧ w' = w := by
  have hu30 := Try.underlying30
  unfold nanF ordF
  go_enter Try.func61, Try.ntmps61
  go_wp2
  go_ret
  exact ⟨rfl, rfl⟩
set_option maxRecDepth 100000 in
set_option maxHeartbeats 2000000 in
theorem compare_calls (a b : Nat) (w : World) : Calls Try.prog 44 #[.float .f64 a, .float .f64 b] w fun e w' => e = .returned (.int .i64 (cmpF a b)) ∧ w' = w := by
  have hu30 := Try.underlying30
  have N1 := fun W => nan_calls a W
  have N2 := fun W => nan_calls b W
  have hL := fun w => congrArg (fun z : Sem Value => z.run Try.prog w) (binOp_float_cmp_lss 30 .f64 a b)
  unfold cmpF
  unfold ordF
  generalize nanF a = na at N1
  generalize nanF b = nb at N2
  clear hL
  cases na
  · cases nb
    · by_cases h1 : (FloatKind.f64.format.order a b == some Ordering.lt) = true
      · go_enter Try.func44, Try.ntmps44
        go_wp2_with (fail)
        refine (N1 _).mono ?_
        rintro e w' ⟨rfl, rfl⟩
        go_wp2_with (fail)
        refine (N2 _).mono ?_
        rintro e w' ⟨rfl, rfl⟩
        go_wp2_with (fail)
        go_ret
        exact ⟨by simp [h1], rfl⟩
      · have h1 : (FloatKind.f64.format.order a b == some Ordering.lt) = false := by simpa using h1
        by_cases h2 : (FloatKind.f64.format.order a b == some Ordering.gt) = true
        · go_enter Try.func44, Try.ntmps44
          go_wp2_with (fail)
          refine (N1 _).mono ?_
          rintro e w' ⟨rfl, rfl⟩
          go_wp2_with (fail)
          refine (N2 _).mono ?_
          rintro e w' ⟨rfl, rfl⟩
          go_wp2_with (fail)
          go_ret
          exact ⟨by simp [h1, h2], rfl⟩
        · have h2 : (FloatKind.f64.format.order a b == some Ordering.gt) = false := by simpa using h2
          go_enter Try.func44, Try.ntmps44
          go_wp2_with (fail)
          refine (N1 _).mono ?_
          rintro e w' ⟨rfl, rfl⟩
          go_wp2_with (fail)
          refine (N2 _).mono ?_
          rintro e w' ⟨rfl, rfl⟩
          go_wp2_with (fail)
          go_ret
          exact ⟨by simp [h1, h2], rfl⟩
    · go_enter Try.func44, Try.ntmps44
      go_wp2_with (fail)
      refine (N1 _).mono ?_
      rintro e w' ⟨rfl, rfl⟩
      go_wp2_with (fail)
      refine (N2 _).mono ?_
      rintro e w' ⟨rfl, rfl⟩
      go_wp2_with (fail)
      go_ret
      exact ⟨by simp, rfl⟩
  · cases nb
    · go_enter Try.func44, Try.ntmps44
      go_wp2_with (fail)
      refine (N1 _).mono ?_
      rintro e w' ⟨rfl, rfl⟩
      go_wp2_with (fail)
      refine (N2 _).mono ?_
      rintro e w' ⟨rfl, rfl⟩
      go_wp2_with (fail)
      go_ret
      exact ⟨by simp, rfl⟩
    · go_enter Try.func44, Try.ntmps44
      go_wp2_with (fail)
      refine (N1 _).mono ?_
      rintro e w' ⟨rfl, rfl⟩
      go_wp2_with (fail)
      refine (N2 _).mono ?_
      rintro e w' ⟨rfl, rfl⟩
      go_wp2_with (fail)
      go_ret
      exact ⟨by simp, rfl⟩
def GrowOf (W w' : World) : Prop := ∃ q os, w' = grow (W.drewN q) os
theorem GrowOf.refl (W : World) : GrowOf W W := ⟨0, #[], by simp [World.drewN]⟩
theorem GrowOf.drew (W : World) : GrowOf W W.drew := ⟨1, #[], by simp [World.drewN]⟩
theorem GrowOf.trans {a b c : World} (h : GrowOf a b) (k : GrowOf b c) : GrowOf a c := by
  obtain ⟨q, os, rfl⟩ := h
  obtain ⟨q', os', rfl⟩ := k
  refine ⟨q + q', os ++ os', ?_⟩
  show grow (grow ((a.drewN q).drewN q') os) os' = _
  rw [grow_grow, World.drewN_drewN]
theorem GrowOf.below {W w' : World} (h : GrowOf W w') : Below W.heap.size W w' := by
  obtain ⟨q, os, rfl⟩ := h
  exact ⟨rfl, rfl, rfl, by simp [grow], fun i hi => by
    show ((W.drewN q).heap ++ os)[i]? = _
    rw [Array.getElem?_append_left (by show i < W.heap.size; omega)]
    rfl⟩
def cmpP (x y : S23) : Int := cmpF (partB x) (partB y)
def less.T1 : Bool × List (List Nat × List Nat) := (true, [([], []), ([0], [0]), ([], []), ([2, 1], [2]), ([1, 3, 3], [1, 3]), ([4, 4, 0, 1, 2, 3, 4], [4])])
def less.B1 : List Nat := [0, 1, 0, 7, 15, 31]
theorem less.tab1 : rtab .any (opsOf Try.f43 1) = less.T1 := by kernel_rfl
theorem less.bits1 : waitsOk less.T1.2 less.B1 = true := by kernel_rfl
set_option maxRecDepth 100000 in
theorem less_calls (x y : S23) (hx : PartOk x) (hy : PartOk y) (W : World) : Calls Try.prog 43 #[.agg #[.int .i64 x.f0, .int .i64 x.f1, .int .i64 x.f2], .agg #[.int .i64 y.f0, .int .i64 y.f1, .int .i64 y.f2]] W fun e w' => e = .returned (.int .i64 (cmpP x y)) ∧ GrowOf W w' := by
  have P1 : ∀ W, Calls Try.prog 14 #[.agg #[.int .i64 x.f0, .int .i64 x.f1, .int .i64 x.f2]] W fun e w' => e = .returned (.float .f64 (partB x)) ∧ GrowOf W w' := fun W => (part_calls x hx W).mono fun e w' ⟨h1, os, h2⟩ => ⟨h1, 0, os, h2⟩
  have P2 : ∀ W, Calls Try.prog 14 #[.agg #[.int .i64 y.f0, .int .i64 y.f1, .int .i64 y.f2]] W fun e w' => e = .returned (.float .f64 (partB y)) ∧ GrowOf W w' := fun W => (part_calls y hy W).mono fun e w' ⟨h1, os, h2⟩ => ⟨h1, 0, os, h2⟩
  have C : ∀ W, Calls Try.prog 44 #[.float .f64 (partB x), .float .f64 (partB y)] W fun e w' => e = .returned (.int .i64 (cmpP x y)) ∧ GrowOf W w' := fun W => (compare_calls (partB x) (partB y) W).mono fun e w' ⟨h1, h2⟩ => ⟨h1, h2 ▸ GrowOf.refl W⟩
  generalize partB x = px at P1 C
  generalize partB y = py at P2 C
  generalize cmpP x y = r at C ⊢
  clear hx hy
  obtain ⟨x0, x1, x2⟩ := x
  obtain ⟨y0, y1, y2⟩ := y
  simp only at P1 P2 ⊢
  have BX := Aside0.mk (blk_alloc (blk_new W (.cells #[.int .i64 x0, .int .i64 x1, .int .i64 x2] 23)) (.cells #[.int .i64 y0, .int .i64 y1, .int .i64 y2] 23))
  have BY := Aside0.mk (blk_new (W.alloc (.cells #[.int .i64 x0, .int .i64 x1, .int .i64 x2] 23)) (.cells #[.int .i64 y0, .int .i64 y1, .int .i64 y2] 23))
  have HG : Aside0 (GrowOf W ((W.alloc (.cells #[.int .i64 x0, .int .i64 x1, .int .i64 x2] 23)).alloc (.cells #[.int .i64 y0, .int .i64 y1, .int .i64 y2] 23))) := ⟨0, _, by rw [alloc_eq_grow, alloc_eq_grow, grow_grow]; rfl⟩
  rw [World.size_alloc] at BY
  go_enter Try.func43, Try.ntmps43
  go_wp2
  generalize ((W.alloc (.cells #[.int .i64 x0, .int .i64 x1, .int .i64 x2] 23)).alloc (.cells #[.int .i64 y0, .int .i64 y1, .int .i64 y2] 23)) = wr at BX BY HG ⊢
  generalize W.heap.size + 1 = by_ at BX BY ⊢
  generalize W.heap.size = bx at BX ⊢
  refine start_ (n := 6) (S := fun w' => True) (ds := []) #[false, false, false, false, false, false] (by kernel_rfl) rfl rfl trivial (fun hHeld => ?_)
  refine with_tabW less.tab1 less.bits1 (fun HT_ HW_ => ?_)
  have BX := Aside0.mk (blk_below BX.out (below_drew (Below.refl _ _)))
  have BY := Aside0.mk (blk_below BY.out (below_drew (Below.refl _ _)))
  have HG := Aside0.mk (HG.out.trans (GrowOf.drew wr))
  generalize wr.drew = wz at HG BX BY hHeld ⊢
  clear hHeld
  refine inv_at [0, 1, 2, 3, 4, 5] (fun a0_ b a w' => a = putSel a0_ b [(0, 5, .agg #[.int .i64 x0, .int .i64 x1, .int .i64 x2]), (1, 6, .float .f64 px), (2, 7, .agg #[.int .i64 y0, .int .i64 y1, .int .i64 y2]), (3, 8, .float .f64 py), (4, 9, .int .i64 r), (5, 4, .int .i64 r)] ∧ (w'.heap[bx]? = some (.cells #[.int .i64 x0, .int .i64 x1, .int .i64 x2] 23 (0, 0))) ∧ (w'.heap[by_]? = some (.cells #[.int .i64 y0, .int .i64 y1, .int .i64 y2] 23 (0, 0))) ∧ (GrowOf W w')) HT_.out HW_.out (by kernel_rfl) (by kernel_rfl) ?_ ?_ ?_
  · exact ⟨by simp only [putSel, Bool.false_eq_true, if_false], BX.out, BY.out, HG.out⟩
  · skip
    clear BX BY HG
    refine steps_cons ?_ ?_
    · as_aux_lemma =>
      rintro b a w' ⟨ha, Q_BX, Q_BY, Q_HG⟩ hb_ hon hoff
      refine ⟨_, rfl, fun K hK => ?_⟩
      have e2 : a.tmps[2]? = some (.pointer (some ⟨bx, 0, none⟩)) := by rw [ha]; exact (putSel_off rfl).trans rfl
      replace ha := Aside0.mk ha
      have BX := Aside0.mk Q_BX
      have BY := Aside0.mk Q_BY
      have HG := Aside0.mk Q_HG
      have hs0_ : w'.cell? ⟨bx, 0, none⟩ = some (.int .i64 x0) := (blk_cell BX.out 0).trans rfl
      have hs1_ : w'.cell? ⟨bx, 1, none⟩ = some (.int .i64 x1) := (blk_cell BX.out 1).trans rfl
      have hs2_ : w'.cell? ⟨bx, 2, none⟩ = some (.int .i64 x2) := (blk_cell BX.out 2).trans rfl
      refine value_ (w1 := w') (v := .agg #[.int .i64 x0, .int .i64 x1, .int .i64 x2]) (by rfl) rfl ?_ ?_
      · go_simp
        (try simp only [i64_w])
        try rfl
      refine hK.out _ _ ⟨(by rw [ha.out]; exact putSel_upk 0 hb_ rfl rfl rfl), Q_BX, Q_BY, Q_HG⟩
    refine steps_cons ?_ ?_
    · as_aux_lemma =>
      rintro b a w' ⟨ha, Q_BX, Q_BY, Q_HG⟩ hb_ hon hoff
      refine ⟨_, rfl, fun K hK => ?_⟩
      have e5 : a.tmps[5]? = some (.agg #[.int .i64 x0, .int .i64 x1, .int .i64 x2]) := by rw [ha]; exact putSel_on (e := (0, 5, .agg #[.int .i64 x0, .int .i64 x1, .int .i64 x2])) 0 rfl rfl (hon 0 (by kernel_rfl)) rfl
      replace ha := Aside0.mk ha
      have BX := Aside0.mk Q_BX
      have BY := Aside0.mk Q_BY
      have HG := Aside0.mk Q_HG
      refine goes_ Try.func14 (by kernel_rfl) rfl #[.agg #[.int .i64 x0, .int .i64 x1, .int .i64 x2]] (by rfl) rfl rfl (by first | (simp only [List.map_toArray, List.map_cons, List.map_nil, Act.eval, Array.getD_eq_getD_getElem?, Option.getD_some, e5]; done) | (simp only [List.map_toArray, List.map_cons, List.map_nil, Act.eval, Array.getD_eq_getD_getElem?, Option.getD_some, e5]; rfl)) ?_
      with_reducible refine (P1 _).mono ?_
      rintro e w6 ⟨rfl, hb⟩
      refine ⟨_, rfl, ?_⟩
      refine hK.out _ _ ⟨(by rw [ha.out]; exact putSel_upk 1 hb_ rfl rfl rfl), blk_below BX.out hb.below, blk_below BY.out hb.below, HG.out.trans hb⟩
    refine steps_cons ?_ ?_
    · as_aux_lemma =>
      rintro b a w' ⟨ha, Q_BX, Q_BY, Q_HG⟩ hb_ hon hoff
      refine ⟨_, rfl, fun K hK => ?_⟩
      have e3 : a.tmps[3]? = some (.pointer (some ⟨by_, 0, none⟩)) := by rw [ha]; exact (putSel_off rfl).trans rfl
      replace ha := Aside0.mk ha
      have BX := Aside0.mk Q_BX
      have BY := Aside0.mk Q_BY
      have HG := Aside0.mk Q_HG
      have hs0_ : w'.cell? ⟨by_, 0, none⟩ = some (.int .i64 y0) := (blk_cell BY.out 0).trans rfl
      have hs1_ : w'.cell? ⟨by_, 1, none⟩ = some (.int .i64 y1) := (blk_cell BY.out 1).trans rfl
      have hs2_ : w'.cell? ⟨by_, 2, none⟩ = some (.int .i64 y2) := (blk_cell BY.out 2).trans rfl
      refine value_ (w1 := w') (v := .agg #[.int .i64 y0, .int .i64 y1, .int .i64 y2]) (by rfl) rfl ?_ ?_
      · go_simp
        (try simp only [i64_w])
        try rfl
      refine hK.out _ _ ⟨(by rw [ha.out]; exact putSel_upk 2 hb_ rfl rfl rfl), Q_BX, Q_BY, Q_HG⟩
    refine steps_cons ?_ ?_
    · as_aux_lemma =>
      rintro b a w' ⟨ha, Q_BX, Q_BY, Q_HG⟩ hb_ hon hoff
      refine ⟨_, rfl, fun K hK => ?_⟩
      have e7 : a.tmps[7]? = some (.agg #[.int .i64 y0, .int .i64 y1, .int .i64 y2]) := by rw [ha]; exact putSel_on (e := (2, 7, .agg #[.int .i64 y0, .int .i64 y1, .int .i64 y2])) 2 rfl rfl (hon 2 (by kernel_rfl)) rfl
      replace ha := Aside0.mk ha
      have BX := Aside0.mk Q_BX
      have BY := Aside0.mk Q_BY
      have HG := Aside0.mk Q_HG
      refine goes_ Try.func14 (by kernel_rfl) rfl #[.agg #[.int .i64 y0, .int .i64 y1, .int .i64 y2]] (by rfl) rfl rfl (by first | (simp only [List.map_toArray, List.map_cons, List.map_nil, Act.eval, Array.getD_eq_getD_getElem?, Option.getD_some, e7]; done) | (simp only [List.map_toArray, List.map_cons, List.map_nil, Act.eval, Array.getD_eq_getD_getElem?, Option.getD_some, e7]; rfl)) ?_
      with_reducible refine (P2 _).mono ?_
      rintro e w6 ⟨rfl, hb⟩
      refine ⟨_, rfl, ?_⟩
      refine hK.out _ _ ⟨(by rw [ha.out]; exact putSel_upk 3 hb_ rfl rfl rfl), blk_below BX.out hb.below, blk_below BY.out hb.below, HG.out.trans hb⟩
    refine steps_cons ?_ ?_
    · as_aux_lemma =>
      rintro b a w' ⟨ha, Q_BX, Q_BY, Q_HG⟩ hb_ hon hoff
      refine ⟨_, rfl, fun K hK => ?_⟩
      have e6 : a.tmps[6]? = some (.float .f64 px) := by rw [ha]; exact putSel_on (e := (1, 6, .float .f64 px)) 1 rfl rfl (hon 1 (by kernel_rfl)) rfl
      have e8 : a.tmps[8]? = some (.float .f64 py) := by rw [ha]; exact putSel_on (e := (3, 8, .float .f64 py)) 3 rfl rfl (hon 3 (by kernel_rfl)) rfl
      replace ha := Aside0.mk ha
      have BX := Aside0.mk Q_BX
      have BY := Aside0.mk Q_BY
      have HG := Aside0.mk Q_HG
      refine goes_ Try.func44 (by kernel_rfl) rfl #[.float .f64 px, .float .f64 py] (by rfl) rfl rfl (by first | (simp only [List.map_toArray, List.map_cons, List.map_nil, Act.eval, Array.getD_eq_getD_getElem?, Option.getD_some, e6, e8]; done) | (simp only [List.map_toArray, List.map_cons, List.map_nil, Act.eval, Array.getD_eq_getD_getElem?, Option.getD_some, e6, e8]; rfl)) ?_
      with_reducible refine (C _).mono ?_
      rintro e w6 ⟨rfl, hb⟩
      refine ⟨_, rfl, ?_⟩
      refine hK.out _ _ ⟨(by rw [ha.out]; exact putSel_upk 4 hb_ rfl rfl rfl), blk_below BX.out hb.below, blk_below BY.out hb.below, HG.out.trans hb⟩
    refine steps_cons ?_ ?_
    · as_aux_lemma =>
      rintro b a w' ⟨ha, Q_BX, Q_BY, Q_HG⟩ hb_ hon hoff
      refine ⟨_, rfl, fun K hK => ?_⟩
      have e9 : a.tmps[9]? = some (.int .i64 r) := by rw [ha]; exact putSel_on (e := (4, 9, .int .i64 r)) 4 rfl rfl (hon 4 (by kernel_rfl)) rfl
      replace ha := Aside0.mk ha
      have BX := Aside0.mk Q_BX
      have BY := Aside0.mk Q_BY
      have HG := Aside0.mk Q_HG
      refine value_ (w1 := w') (v := .int .i64 r) (by rfl) rfl ?_ ?_
      · go_simp
        (try simp only [i64_w])
        try rfl
      refine hK.out _ _ ⟨(by rw [ha.out]; exact putSel_upk 5 hb_ rfl rfl rfl), Q_BX, Q_BY, Q_HG⟩
    exact steps_nil
  rintro b a wT hall ⟨ha, Q_BX, Q_BY, Q_HG⟩
  clear BX BY HG
  have hb0_ := hall 0 (by kernel_rfl)
  have hb1_ := hall 1 (by kernel_rfl)
  have hb2_ := hall 2 (by kernel_rfl)
  have hb3_ := hall 3 (by kernel_rfl)
  have hb4_ := hall 4 (by kernel_rfl)
  have hb5_ := hall 5 (by kernel_rfl)
  subst ha
  simp only [putSel, hb0_, hb1_, hb2_, hb3_, hb4_, hb5_, if_true, Act.put, List.setIfInBounds_toArray, List.set_cons_zero, List.set_cons_succ]
  have BX := Aside0.mk Q_BX
  clear Q_BX
  have BY := Aside0.mk Q_BY
  clear Q_BY
  have HG := Aside0.mk Q_HG
  clear Q_HG
  clear hall hb0_ hb1_ hb2_ hb3_ hb4_ hb5_
  go_wp2
  go_ret
  exact ⟨rfl, HG.out⟩
end Go.Proofs.Ytcjeegomonegpaa.PLivePlays
namespace Go.Proofs.Ytcjeegomonegpaa.PLivePlays
open Go.Shelf
def sortRow_ren : Go.Shelf.Ren := ⟨fun | 6 => 32 | 15 => 56 | 14 => 55 | 28 => 75 | 29 => 76 | 20 => 67 | 21 => 68 | 22 => 69 | 23 => 70 | 24 => 71 | 25 => 72 | 26 => 73 | 27 => 74 | 46 => 80 | 47 => 81 | 48 => 82 | 49 => 83 | 50 => 84 | 57 => 86 | n => n, fun | 22 => 28 | 24 => 23 | 25 => 74 | 3 => 3 | 39 => 100 | 0 => 0 | 53 => 118 | 55 => 120 | 4 => 4 | 46 => 111 | 45 => 110 | 50 => 115 | 5 => 5 | 9 => 9 | 66 => 123 | 70 => 127 | 76 => 129 | 77 => 58 | n => n, fun | n => n⟩
theorem sortRow : Go.Proofs.SlLaysF0.n6 Try.prog sortRow_ren := {
  mixed := by kernel_rfl
  f6 := ⟨Try.f32.name, by decide, Try.func32.trans (congrArg some (by kernel_rfl))⟩
  f14 := ⟨Try.f55.name, by decide, Try.func55.trans (congrArg some (by kernel_rfl))⟩
  f15 := Try.func56.trans (congrArg some (by kernel_rfl))
  f20 := ⟨Try.f67.name, by decide, Try.func67.trans (congrArg some (by kernel_rfl))⟩
  f21 := ⟨Try.f68.name, by decide, Try.func68.trans (congrArg some (by kernel_rfl))⟩
  f22 := ⟨Try.f69.name, by decide, Try.func69.trans (congrArg some (by kernel_rfl))⟩
  f23 := ⟨Try.f70.name, by decide, Try.func70.trans (congrArg some (by kernel_rfl))⟩
  f24 := ⟨Try.f71.name, by decide, Try.func71.trans (congrArg some (by kernel_rfl))⟩
  f25 := ⟨Try.f72.name, by decide, Try.func72.trans (congrArg some (by kernel_rfl))⟩
  f26 := ⟨Try.f73.name, by decide, Try.func73.trans (congrArg some (by kernel_rfl))⟩
  f27 := ⟨Try.f74.name, by decide, Try.func74.trans (congrArg some (by kernel_rfl))⟩
  f28 := Try.func75.trans (congrArg some (by kernel_rfl))
  f29 := Try.func76.trans (congrArg some (by kernel_rfl))
  f46 := ⟨Try.f80.name, by decide, Try.func80.trans (congrArg some (by kernel_rfl))⟩
  f47 := Try.func81.trans (congrArg some (by kernel_rfl))
  f48 := Try.func82.trans (congrArg some (by kernel_rfl))
  f49 := ⟨Try.f83.name, by decide, Try.func83.trans (congrArg some (by kernel_rfl))⟩
  f50 := ⟨Try.f84.name, by decide, Try.func84.trans (congrArg some (by kernel_rfl))⟩
  f57 := ⟨Try.f86.name, by decide, Try.func86.trans (congrArg some (by kernel_rfl))⟩
  t0 := Try.underlying0
  a0 := Try.isAgg0
  z0 := Try.sizeOf0
  v0 := Try.zeroValue0
  t3 := Try.underlying3
  a3 := Try.isAgg3
  z3 := Try.sizeOf3
  v3 := Try.zeroValue3
  t4 := Try.underlying4
  a4 := Try.isAgg4
  z4 := Try.sizeOf4
  v4 := Try.zeroValue4
  t5 := Try.underlying5
  a5 := Try.isAgg5
  z5 := Try.sizeOf5
  v5 := Try.zeroValue5
  t9 := Try.underlying9
  a9 := Try.isAgg9
  z9 := Try.sizeOf9
  v9 := Try.zeroValue9
  t22 := Try.underlying28
  a22 := Try.isAgg28
  z22 := Try.sizeOf28
  v22 := Try.zeroValue28
  t25 := Try.underlying74
  a25 := Try.isAgg74
  z25 := Try.sizeOf74
  v25 := Try.zeroValue74
  t39 := Try.underlying100
  a39 := Try.isAgg100
  z39 := Try.sizeOf100
  v39 := Try.zeroValue100
  t45 := Try.underlying110
  a45 := Try.isAgg110
  z45 := Try.sizeOf110
  v45 := Try.zeroValue110
  t46 := Try.underlying111
  a46 := Try.isAgg111
  z46 := Try.sizeOf111
  v46 := Try.zeroValue111
  t50 := Try.underlying115
  a50 := Try.isAgg115
  z50 := Try.sizeOf115
  v50 := Try.zeroValue115
  t53 := Try.underlying118
  a53 := Try.isAgg118
  z53 := Try.sizeOf118
  v53 := Try.zeroValue118
  t55 := Try.underlying120
  a55 := Try.isAgg120
  z55 := Try.sizeOf120
  v55 := Try.zeroValue120
  t66 := Try.underlying123
  a66 := Try.isAgg123
  z66 := Try.sizeOf123
  v66 := Try.zeroValue123
  t70 := Try.underlying127
  a70 := Try.isAgg127
  z70 := Try.sizeOf127
  v70 := Try.zeroValue127
  t76 := Try.underlying129
  a76 := Try.isAgg129
  z76 := Try.sizeOf129
  v76 := Try.zeroValue129
  t77 := Try.underlying58
  a77 := Try.isAgg58
  z77 := Try.sizeOf58
  v77 := Try.zeroValue58 }
def insertRow_ren : Go.Shelf.Ren := ⟨fun | 20 => 67 | n => n, fun | 24 => 23 | 22 => 28 | 3 => 3 | 25 => 74 | 4 => 4 | 0 => 0 | n => n, fun | n => n⟩
theorem insertRow : Go.Proofs.SlLaysF0.n20 Try.prog insertRow_ren := {
  mixed := by kernel_rfl
  f20 := ⟨Try.f67.name, by decide, Try.func67.trans (congrArg some (by kernel_rfl))⟩
  t0 := Try.underlying0
  a0 := Try.isAgg0
  z0 := Try.sizeOf0
  v0 := Try.zeroValue0
  t3 := Try.underlying3
  a3 := Try.isAgg3
  z3 := Try.sizeOf3
  v3 := Try.zeroValue3
  t4 := Try.underlying4
  a4 := Try.isAgg4
  z4 := Try.sizeOf4
  v4 := Try.zeroValue4
  t22 := Try.underlying28
  a22 := Try.isAgg28
  z22 := Try.sizeOf28
  v22 := Try.zeroValue28
  t25 := Try.underlying74
  a25 := Try.isAgg74
  z25 := Try.sizeOf74
  v25 := Try.zeroValue74 }
end Go.Proofs.Ytcjeegomonegpaa.PLivePlays
namespace Go.Proofs.Ytcjeegomonegpaa.PLivePlays
open Go.RowKit Go.Proofs.YtcjeegomonegpaaW.PrintWords Go.Proofs.YtcjeegomonegpaaW.PrintLast Go.Proofs.YtcjeegomonegpaaW.PrintMore
attribute [local go_sem] max2_int min2_int max_two min_two max_three min_three max_four min_four   -- for this text's walks alone
set_option linter.unusedVariables false
set_option linter.unusedSimpArgs false
def cmp_isNaN_int.f (a0 : Int) : Option (Bool) := some (a0 != a0)
set_option maxHeartbeats 8000000 in
set_option maxRecDepth 100000 in
theorem cmp_isNaN_int.calls (a0 : Int) (r : Bool) (w : World) (h : cmp_isNaN_int.f a0 = some r) :
    Calls Try.prog 77 #[.int .i64 a0] w fun e w' => e = .returned (.bool r) ∧ Drawn0 w w' := by
  have H : (some (a0 != a0)) = some r := h
  clear h
  obtain rfl := Option.some.inj H
  go_enter Try.func77, Try.ntmps77
  go_wp2
  go_ret
  exact ⟨by first | rfl | (simp; done) | (simp [*]; done), by repeat (first | exact Drawn0.refl _ | apply Drawn0.step)⟩
def cmp_Compare_int.f (a0 : Int) (a1 : Int) : Option (Int) := (cmp_isNaN_int.f a0).bind fun t101 => ((cmp_isNaN_int.f a1).bind fun t102 => (if t101 = true then (if t102 = true then (some 0) else (some (-1))) else (if t102 = true then (some 1) else (if a0 < a1 then (some (-1)) else (if a0 > a1 then (some 1) else (some 0))))))
set_option maxHeartbeats 8000000 in
set_option maxRecDepth 100000 in
theorem cmp_Compare_int.calls (a0 : Int) (a1 : Int) (r : Int) (w : World) (h : cmp_Compare_int.f a0 a1 = some r) :
    Calls Try.prog 57 #[.int .i64 a0, .int .i64 a1] w fun e w' => e = .returned (.int .i64 r) ∧ Drawn0 w w' := by
  have H : ((cmp_isNaN_int.f a0).bind fun t101 => ((cmp_isNaN_int.f a1).bind fun t102 => (if t101 = true then (if t102 = true then (some 0) else (some (-1))) else (if t102 = true then (some 1) else (if a0 < a1 then (some (-1)) else (if a0 > a1 then (some 1) else (some 0))))))) = some r := h
  clear h
  replace H := Option.bind_eq_some_iff.mp H
  obtain ⟨t101, A30, H⟩ := H
  replace H : ((cmp_isNaN_int.f a1).bind fun t102 => (if t101 = true then (if t102 = true then (some 0) else (some (-1))) else (if t102 = true then (some 1) else (if a0 < a1 then (some (-1)) else (if a0 > a1 then (some 1) else (some 0)))))) = some r := H
  have A3 := Aside0.mk A30
  clear A30
  replace H := Option.bind_eq_some_iff.mp H
  obtain ⟨t102, A40, H⟩ := H
  replace H : (if t101 = true then (if t102 = true then (some 0) else (some (-1))) else (if t102 = true then (some 1) else (if a0 < a1 then (some (-1)) else (if a0 > a1 then (some 1) else (some 0))))) = some r := H
  have A4 := Aside0.mk A40
  clear A40
  by_cases c5 : t101 = true
  · subst c5
    have H1 : (if t102 = true then (some 0) else (some (-1))) = some r := by rw [if_pos rfl] at H; exact H
    clear H
    have H := H1
    clear H1
    by_cases c6 : t102 = true
    · subst c6
      have H1 : (some 0) = some r := by rw [if_pos rfl] at H; exact H
      clear H
      have H := H1
      clear H1
      obtain rfl := Option.some.inj H
      go_enter Try.func57, Try.ntmps57
      go_wp2_with (first | ((with_reducible refine gate_callee (f := 77) rfl ?_); refine goesL_ (some 8) rfl rfl Try.func77 (by kernel_rfl) rfl #[.int .i64 a0] rfl (by (try simp only [List.map_toArray, List.map_cons, List.map_nil]); first | done | rfl | (simp only [List.length_drop, List.length_take]; rfl)) ?_; (with_reducible refine (cmp_isNaN_int.calls a0 true _ A3.out).mono ?_); rintro e w' ⟨rfl, ⟨nd, rfl⟩⟩; refine ⟨_, rfl, ?_⟩) | ((with_reducible refine gate_callee (f := 77) rfl ?_); refine goesL_ (some 10) rfl rfl Try.func77 (by kernel_rfl) rfl #[.int .i64 a1] rfl (by (try simp only [List.map_toArray, List.map_cons, List.map_nil]); first | done | rfl | (simp only [List.length_drop, List.length_take]; rfl)) ?_; (with_reducible refine (cmp_isNaN_int.calls a1 true _ A4.out).mono ?_); rintro e w' ⟨rfl, ⟨nd, rfl⟩⟩; refine ⟨_, rfl, ?_⟩))
      go_ret
      exact ⟨by first | rfl | (simp; done) | (simp [*]; done), by repeat (first | exact Drawn0.refl _ | apply Drawn0.step)⟩
    · replace c6 := Bool.eq_false_iff.mpr c6
      subst c6
      have H1 : (some (-1)) = some r := by rw [if_neg (show ¬ (false = true) by decide)] at H; exact H
      clear H
      have H := H1
      clear H1
      obtain rfl := Option.some.inj H
      go_enter Try.func57, Try.ntmps57
      go_wp2_with (first | ((with_reducible refine gate_callee (f := 77) rfl ?_); refine goesL_ (some 8) rfl rfl Try.func77 (by kernel_rfl) rfl #[.int .i64 a0] rfl (by (try simp only [List.map_toArray, List.map_cons, List.map_nil]); first | done | rfl | (simp only [List.length_drop, List.length_take]; rfl)) ?_; (with_reducible refine (cmp_isNaN_int.calls a0 true _ A3.out).mono ?_); rintro e w' ⟨rfl, ⟨nd, rfl⟩⟩; refine ⟨_, rfl, ?_⟩) | ((with_reducible refine gate_callee (f := 77) rfl ?_); refine goesL_ (some 10) rfl rfl Try.func77 (by kernel_rfl) rfl #[.int .i64 a1] rfl (by (try simp only [List.map_toArray, List.map_cons, List.map_nil]); first | done | rfl | (simp only [List.length_drop, List.length_take]; rfl)) ?_; (with_reducible refine (cmp_isNaN_int.calls a1 false _ A4.out).mono ?_); rintro e w' ⟨rfl, ⟨nd, rfl⟩⟩; refine ⟨_, rfl, ?_⟩))
      go_ret
      exact ⟨by first | rfl | (simp; done) | (simp [*]; done), by repeat (first | exact Drawn0.refl _ | apply Drawn0.step)⟩
  · replace c5 := Bool.eq_false_iff.mpr c5
    subst c5
    have H1 : (if t102 = true then (some 1) else (if a0 < a1 then (some (-1)) else (if a0 > a1 then (some 1) else (some 0)))) = some r := by rw [if_neg (show ¬ (false = true) by decide)] at H; exact H
    clear H
    have H := H1
    clear H1
    by_cases c7 : t102 = true
    · subst c7
      have H1 : (some 1) = some r := by rw [if_pos rfl] at H; exact H
      clear H
      have H := H1
      clear H1
      obtain rfl := Option.some.inj H
      go_enter Try.func57, Try.ntmps57
      go_wp2_with (first | ((with_reducible refine gate_callee (f := 77) rfl ?_); refine goesL_ (some 8) rfl rfl Try.func77 (by kernel_rfl) rfl #[.int .i64 a0] rfl (by (try simp only [List.map_toArray, List.map_cons, List.map_nil]); first | done | rfl | (simp only [List.length_drop, List.length_take]; rfl)) ?_; (with_reducible refine (cmp_isNaN_int.calls a0 false _ A3.out).mono ?_); rintro e w' ⟨rfl, ⟨nd, rfl⟩⟩; refine ⟨_, rfl, ?_⟩) | ((with_reducible refine gate_callee (f := 77) rfl ?_); refine goesL_ (some 10) rfl rfl Try.func77 (by kernel_rfl) rfl #[.int .i64 a1] rfl (by (try simp only [List.map_toArray, List.map_cons, List.map_nil]); first | done | rfl | (simp only [List.length_drop, List.length_take]; rfl)) ?_; (with_reducible refine (cmp_isNaN_int.calls a1 true _ A4.out).mono ?_); rintro e w' ⟨rfl, ⟨nd, rfl⟩⟩; refine ⟨_, rfl, ?_⟩))
      go_ret
      exact ⟨by first | rfl | (simp; done) | (simp [*]; done), by repeat (first | exact Drawn0.refl _ | apply Drawn0.step)⟩
    · replace c7 := Bool.eq_false_iff.mpr c7
      subst c7
      have H1 : (if a0 < a1 then (some (-1)) else (if a0 > a1 then (some 1) else (some 0))) = some r := by rw [if_neg (show ¬ (false = true) by decide)] at H; exact H
      clear H
      have H := H1
      clear H1
      by_cases c8 : a0 < a1
      · rw [if_pos c8] at H
        have c8b0 : decide (a0 < a1) = true := decide_eq_true c8
        clear c8
        obtain rfl := Option.some.inj H
        go_enter Try.func57, Try.ntmps57
        go_wp2_with (first | ((with_reducible refine gate_callee (f := 77) rfl ?_); refine goesL_ (some 8) rfl rfl Try.func77 (by kernel_rfl) rfl #[.int .i64 a0] rfl (by (try simp only [List.map_toArray, List.map_cons, List.map_nil]); first | done | rfl | (simp only [List.length_drop, List.length_take]; rfl)) ?_; (with_reducible refine (cmp_isNaN_int.calls a0 false _ A3.out).mono ?_); rintro e w' ⟨rfl, ⟨nd, rfl⟩⟩; refine ⟨_, rfl, ?_⟩) | ((with_reducible refine gate_callee (f := 77) rfl ?_); refine goesL_ (some 10) rfl rfl Try.func77 (by kernel_rfl) rfl #[.int .i64 a1] rfl (by (try simp only [List.map_toArray, List.map_cons, List.map_nil]); first | done | rfl | (simp only [List.length_drop, List.length_take]; rfl)) ?_; (with_reducible refine (cmp_isNaN_int.calls a1 false _ A4.out).mono ?_); rintro e w' ⟨rfl, ⟨nd, rfl⟩⟩; refine ⟨_, rfl, ?_⟩))
        go_ret
        exact ⟨by first | rfl | (simp; done) | (simp [*]; done), by repeat (first | exact Drawn0.refl _ | apply Drawn0.step)⟩
      · rw [if_neg c8] at H
        have c8b0 : decide (a0 < a1) = false := decide_eq_false c8
        clear c8
        by_cases c9 : a0 > a1
        · rw [if_pos c9] at H
          have c9b0 : decide (a1 < a0) = true := decide_eq_true c9
          clear c9
          obtain rfl := Option.some.inj H
          go_enter Try.func57, Try.ntmps57
          go_wp2_with (first | ((with_reducible refine gate_callee (f := 77) rfl ?_); refine goesL_ (some 8) rfl rfl Try.func77 (by kernel_rfl) rfl #[.int .i64 a0] rfl (by (try simp only [List.map_toArray, List.map_cons, List.map_nil]); first | done | rfl | (simp only [List.length_drop, List.length_take]; rfl)) ?_; (with_reducible refine (cmp_isNaN_int.calls a0 false _ A3.out).mono ?_); rintro e w' ⟨rfl, ⟨nd, rfl⟩⟩; refine ⟨_, rfl, ?_⟩) | ((with_reducible refine gate_callee (f := 77) rfl ?_); refine goesL_ (some 10) rfl rfl Try.func77 (by kernel_rfl) rfl #[.int .i64 a1] rfl (by (try simp only [List.map_toArray, List.map_cons, List.map_nil]); first | done | rfl | (simp only [List.length_drop, List.length_take]; rfl)) ?_; (with_reducible refine (cmp_isNaN_int.calls a1 false _ A4.out).mono ?_); rintro e w' ⟨rfl, ⟨nd, rfl⟩⟩; refine ⟨_, rfl, ?_⟩))
          go_ret
          exact ⟨by first | rfl | (simp; done) | (simp [*]; done), by repeat (first | exact Drawn0.refl _ | apply Drawn0.step)⟩
        · rw [if_neg c9] at H
          have c9b0 : decide (a1 < a0) = false := decide_eq_false c9
          clear c9
          obtain rfl := Option.some.inj H
          go_enter Try.func57, Try.ntmps57
          go_wp2_with (first | ((with_reducible refine gate_callee (f := 77) rfl ?_); refine goesL_ (some 8) rfl rfl Try.func77 (by kernel_rfl) rfl #[.int .i64 a0] rfl (by (try simp only [List.map_toArray, List.map_cons, List.map_nil]); first | done | rfl | (simp only [List.length_drop, List.length_take]; rfl)) ?_; (with_reducible refine (cmp_isNaN_int.calls a0 false _ A3.out).mono ?_); rintro e w' ⟨rfl, ⟨nd, rfl⟩⟩; refine ⟨_, rfl, ?_⟩) | ((with_reducible refine gate_callee (f := 77) rfl ?_); refine goesL_ (some 10) rfl rfl Try.func77 (by kernel_rfl) rfl #[.int .i64 a1] rfl (by (try simp only [List.map_toArray, List.map_cons, List.map_nil]); first | done | rfl | (simp only [List.length_drop, List.length_take]; rfl)) ?_; (with_reducible refine (cmp_isNaN_int.calls a1 false _ A4.out).mono ?_); rintro e w' ⟨rfl, ⟨nd, rfl⟩⟩; refine ⟨_, rfl, ?_⟩))
          go_ret
          exact ⟨by first | rfl | (simp; done) | (simp [*]; done), by repeat (first | exact Drawn0.refl _ | apply Drawn0.step)⟩
def lighterlaw08_Plain.l0 : Nat → List (S23) → List (S25) → Int → Option ((List (S25)))
  | 0, _, _, _ => none
  | k + 1, x0, x3, x4 => if x4 < (x0.length : Int) then (if 0 ≤ x4 then (if x3.length < 5864062014805 then (lighterlaw08_Plain.l0 k x0 (x3 ++ [(⟨(rd_T23 x0 x4).f0, (rd_T23 x0 x4).f1, (rd_T23 x0 x4).f2⟩ : S25)]) (wrap64 (x4 + 1))) else (none)) else (none)) else (some x3)
def lighterlaw08_Plain.f (k : Nat) (l0 : List (S23)) : Option ((List (S25))) := lighterlaw08_Plain.l0 k l0 ([] : List (S25)) 0
def lighterlaw08_Plain.T5 : Bool × List (List Nat × List Nat) := (true, [([], []), ([], []), ([], []), ([1, 2], [1, 2]), ([3], [3]), ([4], [4]), ([], []), ([], []), ([6, 7], [6, 7]), ([8], [8]), ([9], [9]), ([], []), ([], []), ([11, 12], [11, 12]), ([13], [13]), ([14], [14]), ([5, 10, 15], [5, 10, 15]), ([16], [16]), ([0, 17], [0, 17]), ([18, 18, 0, 1, 2, 3, 4, 5, 6, 7, 8, 9, 10, 11, 12, 13, 14, 15, 16, 17, 18], [0, 18])])
def lighterlaw08_Plain.B5 : List Nat := [0, 0, 0, 6, 14, 30, 0, 0, 192, 448, 960, 0, 0, 6144, 14336, 30720, 65534, 131070, 262143, 524287]
theorem lighterlaw08_Plain.tab5 : rtab .any (opsOf Try.f12 5) = lighterlaw08_Plain.T5 := by kernel_rfl
theorem lighterlaw08_Plain.bits5 : waitsOk lighterlaw08_Plain.T5.2 lighterlaw08_Plain.B5 = true := by kernel_rfl
set_option maxHeartbeats 8000000 in
set_option maxRecDepth 100000 in
theorem lighterlaw08_Plain.calls (k : Nat) (A0 : Option Addr) (c0 : Nat) (l0 : List (S23)) (r : List (S25)) (w : World) (hr0 : Kd.C k23 w A0 l0.length l0) (hc0 : l0.length ≤ c0) (h : lighterlaw08_Plain.f k l0 = some r) :
    Calls Try.prog 12 #[.slice A0 l0.length c0] w fun e w' => ∃ v0_ : Value, e = .returned (v0_) ∧ Kd.R k25 25 w' w.heap.size (fun _ => True) v0_ r ∧ Below w.heap.size w w' := by
  have hu25 := Try.underlying25
  have HR0 := Aside0.mk hr0
  have HC0 := Aside0.mk hc0
  clear hr0 hc0
  have HB := Aside0.mk (Below.refl w.heap.size w)
  have H : (lighterlaw08_Plain.l0 k l0 ([] : List (S25)) 0) = some r := h
  clear h
  have H' := Aside0.mk H
  clear H
  go_enter Try.func12, Try.ntmps12
  go_wp2
  go_loopg [3, 4] k (fun kq v3 v4 w' => ∃ (x3_1 : List (S25)) (x4_1 : Int), v4 = .int .i64 x4_1 ∧ Aside0 (lighterlaw08_Plain.l0 kq l0 x3_1 x4_1 = some r) ∧ Aside0 (kq ≤ k) ∧ Aside0 (Kd.R k25 25 w' w.heap.size (fun _ => True) v3 x3_1) ∧ Aside0 (Below w.heap.size w w'))
  case atStart => exact ⟨(([] : List (S25))), (0), (by first | rfl | (simp; done) | (simp [*]; done)), H', ⟨Nat.le_refl _⟩, ⟨by first | exact Kd.R_nil _ _ _ _ _ | exact Kd.N_nil _ _ _ _ _ | exact Kd.V_nil _ _ _ _ _ | exact Kd.Q_nil _ _ _ _ _ | exact Kd.S_nil _ _ _ _ _⟩, ⟨by repeat (first | (with_reducible first | exact HB.out | apply below_alloc | apply pw_below_drewN | apply below_drew1) | exact HB.out)⟩⟩
  case round =>
    clear H'
    try clear c1
    obtain ⟨x3_1, x4_1, rfl, HA, HK1, HO_3, HB⟩ := hrel
    cases gk with
    | zero => exact absurd HA.out (by simp [lighterlaw08_Plain.l0])
    | succ k1 =>
      have H := HA.out
      clear HA
      simp only [lighterlaw08_Plain.l0] at H
      by_cases c2 : x4_1 < (l0.length : Int)
      · rw [if_pos c2] at H
        have c2b0 : decide (x4_1 < (l0.length : Int)) = true := decide_eq_true c2
        clear c2
        by_cases c3 : 0 ≤ x4_1
        · rw [if_pos c3] at H
          have c3b0 : decide (0 ≤ x4_1) = true := decide_eq_true c3
          clear c3
          by_cases c4 : x3_1.length < 5864062014805
          · rw [if_pos c4] at H
            have LMc4 := Aside0.mk c4
            clear c4
            obtain ⟨y111, hy111⟩ : ∃ y_ : List (S25), y_ = (x3_1 ++ [(⟨(rd_T23 l0 x4_1).f0, (rd_T23 l0 x4_1).f1, (rd_T23 l0 x4_1).f2⟩ : S25)]) := ⟨_, rfl⟩
            replace H : (lighterlaw08_Plain.l0 k1 l0 y111 (wrap64 (x4_1 + 1))) = some r := by first | (rw [hy111]; with_reducible exact H) | (have H2_ := (Option.bind_some _ _).symm.trans H; rw [hy111]; with_reducible exact H2_) | (have H2_ := (Option.bind_some _ _).symm.trans H; with_reducible exact H2_) | with_reducible exact H | (rw [hy111]; exact H) | exact H
            have Ny111 := Aside0.mk hy111
            clear hy111
            have H' := Aside0.mk H
            clear H
            try go_wp2
            have n0_ := Aside0.mk (Kd.R_drew HO_3.out)
            have n1_ := Aside0.mk (below_drew1 HB.out)
            clear HO_3
            clear HB
            have HO_3 := n0_
            have HB := n1_
            clear n0_ n1_
            have p108 : 0 ≤ (x4_1 : Int) := of_decide_eq_true (by first | (with_reducible assumption) | assumption)
            have q108 : x4_1 < (l0.length : Int) := of_decide_eq_true (by first | (with_reducible assumption) | assumption)
            obtain ⟨ad108, e108, hx108_0, hx108_1, hx108_2⟩ := at_T23 HR0.out x4_1 p108 q108
            have hw108_2 := hx108_2
            have hw108_1 := hx108_1
            have hw108_0 := hx108_0
            cases e108
            replace hx108_0 := (HB.out.cell (World.block_lt_of_cell? w _ hx108_0)).trans hx108_0
            replace hx108_1 := (HB.out.cell (World.block_lt_of_cell? w _ hx108_1)).trans hx108_1
            replace hx108_2 := (HB.out.cell (World.block_lt_of_cell? w _ hx108_2)).trans hx108_2
            replace p108 := eq_true p108
            replace q108 := eq_true q108
            have p109 : 0 ≤ (x4_1 : Int) := of_decide_eq_true (by first | (with_reducible assumption) | assumption)
            have q109 : x4_1 < (l0.length : Int) := of_decide_eq_true (by first | (with_reducible assumption) | assumption)
            obtain ⟨ad109, e109, hx109_0, hx109_1, hx109_2⟩ := at_T23 HR0.out x4_1 p109 q109
            have hw109_2 := hx109_2
            have hw109_1 := hx109_1
            have hw109_0 := hx109_0
            obtain rfl : ad108 = ad109 := (by injection e109)
            replace hx109_0 := (HB.out.cell (World.block_lt_of_cell? w _ hx109_0)).trans hx109_0
            replace hx109_1 := (HB.out.cell (World.block_lt_of_cell? w _ hx109_1)).trans hx109_1
            replace hx109_2 := (HB.out.cell (World.block_lt_of_cell? w _ hx109_2)).trans hx109_2
            replace p109 := eq_true p109
            replace q109 := eq_true q109
            have p110 : 0 ≤ (x4_1 : Int) := of_decide_eq_true (by first | (with_reducible assumption) | assumption)
            have q110 : x4_1 < (l0.length : Int) := of_decide_eq_true (by first | (with_reducible assumption) | assumption)
            obtain ⟨ad110, e110, hx110_0, hx110_1, hx110_2⟩ := at_T23 HR0.out x4_1 p110 q110
            have hw110_2 := hx110_2
            have hw110_1 := hx110_1
            have hw110_0 := hx110_0
            obtain rfl : ad108 = ad110 := (by injection e110)
            replace hx110_0 := (HB.out.cell (World.block_lt_of_cell? w _ hx110_0)).trans hx110_0
            replace hx110_1 := (HB.out.cell (World.block_lt_of_cell? w _ hx110_1)).trans hx110_1
            replace hx110_2 := (HB.out.cell (World.block_lt_of_cell? w _ hx110_2)).trans hx110_2
            replace p110 := eq_true p110
            replace q110 := eq_true q110
            refine start_ (n := 20) (S := fun w' => w'.cell? (ad108.add ((x4_1).toNat * 3)) = some (.int .i64 ((rd_T23 l0 x4_1).f0)) ∧ w'.cell? ⟨(ad108.add ((x4_1).toNat * 3)).block, (ad108.add ((x4_1).toNat * 3)).off + 1, none⟩ = some (.int .i64 ((rd_T23 l0 x4_1).f1)) ∧ w'.cell? ⟨(ad108.add ((x4_1).toNat * 3)).block, (ad108.add ((x4_1).toNat * 3)).off + 2, none⟩ = some (.int .i64 ((rd_T23 l0 x4_1).f2)) ∧ w'.cell? (ad108.add ((x4_1).toNat * 3)) = some (.int .i64 ((rd_T23 l0 x4_1).f0)) ∧ w'.cell? ⟨(ad108.add ((x4_1).toNat * 3)).block, (ad108.add ((x4_1).toNat * 3)).off + 1, none⟩ = some (.int .i64 ((rd_T23 l0 x4_1).f1)) ∧ w'.cell? ⟨(ad108.add ((x4_1).toNat * 3)).block, (ad108.add ((x4_1).toNat * 3)).off + 2, none⟩ = some (.int .i64 ((rd_T23 l0 x4_1).f2)) ∧ w'.cell? (ad108.add ((x4_1).toNat * 3)) = some (.int .i64 ((rd_T23 l0 x4_1).f0)) ∧ w'.cell? ⟨(ad108.add ((x4_1).toNat * 3)).block, (ad108.add ((x4_1).toNat * 3)).off + 1, none⟩ = some (.int .i64 ((rd_T23 l0 x4_1).f1)) ∧ w'.cell? ⟨(ad108.add ((x4_1).toNat * 3)).block, (ad108.add ((x4_1).toNat * 3)).off + 2, none⟩ = some (.int .i64 ((rd_T23 l0 x4_1).f2))) (ds := []) #[false, false, false, false, false, false, false, false, false, false, false, false, false, false, false, false, false, false, false, false] (by kernel_rfl) rfl rfl ⟨((HB.out.cell (World.block_lt_of_cell? w _ hw108_0)).trans hw108_0), ((HB.out.cell (World.block_lt_of_cell? w _ hw108_1)).trans hw108_1), ((HB.out.cell (World.block_lt_of_cell? w _ hw108_2)).trans hw108_2), ((HB.out.cell (World.block_lt_of_cell? w _ hw109_0)).trans hw109_0), ((HB.out.cell (World.block_lt_of_cell? w _ hw109_1)).trans hw109_1), ((HB.out.cell (World.block_lt_of_cell? w _ hw109_2)).trans hw109_2), ((HB.out.cell (World.block_lt_of_cell? w _ hw110_0)).trans hw110_0), ((HB.out.cell (World.block_lt_of_cell? w _ hw110_1)).trans hw110_1), ((HB.out.cell (World.block_lt_of_cell? w _ hw110_2)).trans hw110_2)⟩ (fun hHeld => ?_); refine with_tabW lighterlaw08_Plain.tab5 lighterlaw08_Plain.bits5 (fun HT_ HW_ => ?_)
            generalize wr.drew = w5 at HO_3 HB hx108_0 hx108_1 hx108_2 hx109_0 hx109_1 hx109_2 hx110_0 hx110_1 hx110_2 hHeld ⊢
            refine pure_ (i := 0) (N := some 11) (v := ?_) (a' := ?_) #[true, false, false, false, false, false, false, false, false, false, false, false, false, false, false, false, false, false, false, false] rfl rfl (any_of HT_.out (by kernel_rfl)) (fun _ _ _ h => h) (Or.inl ⟨by rfl, ?_⟩) ?_ ?_
            rotate_left
            · intro w'
              go_simp
              with_reducible rfl
            rotate_left
            · simp only [Act.put, List.setIfInBounds_toArray, List.set_cons_zero, List.set_cons_succ, i64_w, i32_w]
              rfl
            refine pure_ (i := 1) (N := some 12) (v := ?_) (a' := ?_) #[true, true, false, false, false, false, false, false, false, false, false, false, false, false, false, false, false, false, false, false] rfl rfl (any_of HT_.out (by kernel_rfl)) (fun _ _ _ h => h) (Or.inl ⟨by rfl, ?_⟩) ?_ ?_
            rotate_left
            · intro w'
              go_simp
              with_reducible rfl
            rotate_left
            · simp only [Act.put, List.setIfInBounds_toArray, List.set_cons_zero, List.set_cons_succ, i64_w, i32_w]
              rfl
            refine pure_ (i := 2) (N := some 13) (v := ?_) (a' := ?_) #[true, true, true, false, false, false, false, false, false, false, false, false, false, false, false, false, false, false, false, false] rfl rfl (any_of HT_.out (by kernel_rfl)) (fun _ _ _ h => h) (Or.inl ⟨by rfl, ?_⟩) ?_ ?_
            rotate_left
            · intro w'
              go_simp
              with_reducible rfl
            rotate_left
            · simp only [Act.put, List.setIfInBounds_toArray, List.set_cons_zero, List.set_cons_succ, i64_w, i32_w]
              rfl
            refine pure_ (i := 3) (N := some 14) (v := ?_) (a' := ?_) #[true, true, true, true, false, false, false, false, false, false, false, false, false, false, false, false, false, false, false, false] rfl rfl (any_of HT_.out (by kernel_rfl)) (fun _ _ _ h => h) (Or.inl ⟨by rfl, ?_⟩) ?_ ?_
            rotate_left
            · intro w'
              go_simp
              with_reducible rfl
            rotate_left
            · simp only [Act.put, List.setIfInBounds_toArray, List.set_cons_zero, List.set_cons_succ, i64_w, i32_w]
              rfl
            refine pure_ (i := 4) (N := some 15) (v := ?_) (a' := ?_) #[true, true, true, true, true, false, false, false, false, false, false, false, false, false, false, false, false, false, false, false] rfl rfl (any_of HT_.out (by kernel_rfl)) (fun _ _ _ h => h) (Or.inl ⟨by rfl, ?_⟩) ?_ ?_
            rotate_left
            · intro w'
              go_simp
              with_reducible rfl
            rotate_left
            · simp only [Act.put, List.setIfInBounds_toArray, List.set_cons_zero, List.set_cons_succ, i64_w, i32_w]
              rfl
            refine pure_ (i := 6) (N := some 17) (v := ?_) (a' := ?_) #[true, true, true, true, true, false, true, false, false, false, false, false, false, false, false, false, false, false, false, false] rfl rfl (any_of HT_.out (by kernel_rfl)) (fun _ _ _ h => h) (Or.inl ⟨by rfl, ?_⟩) ?_ ?_
            rotate_left
            · intro w'
              go_simp
              with_reducible rfl
            rotate_left
            · simp only [Act.put, List.setIfInBounds_toArray, List.set_cons_zero, List.set_cons_succ, i64_w, i32_w]
              rfl
            refine pure_ (i := 7) (N := some 18) (v := ?_) (a' := ?_) #[true, true, true, true, true, false, true, true, false, false, false, false, false, false, false, false, false, false, false, false] rfl rfl (any_of HT_.out (by kernel_rfl)) (fun _ _ _ h => h) (Or.inl ⟨by rfl, ?_⟩) ?_ ?_
            rotate_left
            · intro w'
              go_simp
              with_reducible rfl
            rotate_left
            · simp only [Act.put, List.setIfInBounds_toArray, List.set_cons_zero, List.set_cons_succ, i64_w, i32_w]
              rfl
            refine pure_ (i := 8) (N := some 19) (v := ?_) (a' := ?_) #[true, true, true, true, true, false, true, true, true, false, false, false, false, false, false, false, false, false, false, false] rfl rfl (any_of HT_.out (by kernel_rfl)) (fun _ _ _ h => h) (Or.inl ⟨by rfl, ?_⟩) ?_ ?_
            rotate_left
            · intro w'
              go_simp
              with_reducible rfl
            rotate_left
            · simp only [Act.put, List.setIfInBounds_toArray, List.set_cons_zero, List.set_cons_succ, i64_w, i32_w]
              rfl
            refine pure_ (i := 9) (N := some 20) (v := ?_) (a' := ?_) #[true, true, true, true, true, false, true, true, true, true, false, false, false, false, false, false, false, false, false, false] rfl rfl (any_of HT_.out (by kernel_rfl)) (fun _ _ _ h => h) (Or.inl ⟨by rfl, ?_⟩) ?_ ?_
            rotate_left
            · intro w'
              go_simp
              with_reducible rfl
            rotate_left
            · simp only [Act.put, List.setIfInBounds_toArray, List.set_cons_zero, List.set_cons_succ, i64_w, i32_w]
              rfl
            refine pure_ (i := 11) (N := some 22) (v := ?_) (a' := ?_) #[true, true, true, true, true, false, true, true, true, true, false, true, false, false, false, false, false, false, false, false] rfl rfl (any_of HT_.out (by kernel_rfl)) (fun _ _ _ h => h) (Or.inl ⟨by rfl, ?_⟩) ?_ ?_
            rotate_left
            · intro w'
              go_simp
              with_reducible rfl
            rotate_left
            · simp only [Act.put, List.setIfInBounds_toArray, List.set_cons_zero, List.set_cons_succ, i64_w, i32_w]
              rfl
            refine pure_ (i := 12) (N := some 23) (v := ?_) (a' := ?_) #[true, true, true, true, true, false, true, true, true, true, false, true, true, false, false, false, false, false, false, false] rfl rfl (any_of HT_.out (by kernel_rfl)) (fun _ _ _ h => h) (Or.inl ⟨by rfl, ?_⟩) ?_ ?_
            rotate_left
            · intro w'
              go_simp
              with_reducible rfl
            rotate_left
            · simp only [Act.put, List.setIfInBounds_toArray, List.set_cons_zero, List.set_cons_succ, i64_w, i32_w]
              rfl
            refine pure_ (i := 13) (N := some 24) (v := ?_) (a' := ?_) #[true, true, true, true, true, false, true, true, true, true, false, true, true, true, false, false, false, false, false, false] rfl rfl (any_of HT_.out (by kernel_rfl)) (fun _ _ _ h => h) (Or.inl ⟨by rfl, ?_⟩) ?_ ?_
            rotate_left
            · intro w'
              go_simp
              with_reducible rfl
            rotate_left
            · simp only [Act.put, List.setIfInBounds_toArray, List.set_cons_zero, List.set_cons_succ, i64_w, i32_w]
              rfl
            refine pure_ (i := 14) (N := some 25) (v := ?_) (a' := ?_) #[true, true, true, true, true, false, true, true, true, true, false, true, true, true, true, false, false, false, false, false] rfl rfl (any_of HT_.out (by kernel_rfl)) (fun _ _ _ h => h) (Or.inl ⟨by rfl, ?_⟩) ?_ ?_
            rotate_left
            · intro w'
              go_simp
              with_reducible rfl
            rotate_left
            · simp only [Act.put, List.setIfInBounds_toArray, List.set_cons_zero, List.set_cons_succ, i64_w, i32_w]
              rfl
            refine take_ (i := 5) (N := some 16) (v := ?_) (a' := ?_) #[true, true, true, true, true, true, true, true, true, true, false, true, true, true, true, false, false, false, false, false] rfl rfl (take_ofW HT_.out HW_.out (by kernel_rfl)) (fun _ _ _ h => h) (Or.inl ⟨by rfl, ?_⟩) hHeld ?_ ?_
            rotate_left
            · rintro w' ⟨s0, s1, s2, s3, s4, s5, s6, s7, s8⟩
              go_simp
              with_reducible rfl
            rotate_left
            · simp only [Act.put, List.setIfInBounds_toArray, List.set_cons_zero, List.set_cons_succ, i64_w, i32_w]
              rfl
            refine take_ (i := 10) (N := some 21) (v := ?_) (a' := ?_) #[true, true, true, true, true, true, true, true, true, true, true, true, true, true, true, false, false, false, false, false] rfl rfl (take_ofW HT_.out HW_.out (by kernel_rfl)) (fun _ _ _ h => h) (Or.inl ⟨by rfl, ?_⟩) hHeld ?_ ?_
            rotate_left
            · rintro w' ⟨s0, s1, s2, s3, s4, s5, s6, s7, s8⟩
              go_simp
              with_reducible rfl
            rotate_left
            · simp only [Act.put, List.setIfInBounds_toArray, List.set_cons_zero, List.set_cons_succ, i64_w, i32_w]
              rfl
            refine take_ (i := 15) (N := some 26) (v := ?_) (a' := ?_) #[true, true, true, true, true, true, true, true, true, true, true, true, true, true, true, true, false, false, false, false] rfl rfl (take_ofW HT_.out HW_.out (by kernel_rfl)) (fun _ _ _ h => h) (Or.inl ⟨by rfl, ?_⟩) hHeld ?_ ?_
            rotate_left
            · rintro w' ⟨s0, s1, s2, s3, s4, s5, s6, s7, s8⟩
              go_simp
              with_reducible rfl
            rotate_left
            · simp only [Act.put, List.setIfInBounds_toArray, List.set_cons_zero, List.set_cons_succ, i64_w, i32_w]
              rfl
            refine pure_ (i := 16) (N := some 27) (v := ?_) (a' := ?_) #[true, true, true, true, true, true, true, true, true, true, true, true, true, true, true, true, true, false, false, false] rfl rfl (any_of HT_.out (by kernel_rfl)) (fun _ _ _ h => h) (Or.inl ⟨by rfl, ?_⟩) ?_ ?_
            rotate_left
            · intro w'
              go_simp
              with_reducible rfl
            rotate_left
            · simp only [Act.put, List.setIfInBounds_toArray, List.set_cons_zero, List.set_cons_succ, i64_w, i32_w]
              rfl
            refine one_ (i := 17) (N := some 28) #[true, true, true, true, true, true, true, true, true, true, true, true, true, true, true, true, true, true, false, false] rfl rfl (one_of HT_.out (by kernel_rfl)) (by decide) (fun K hK => ?_)
            refine value_ (w1 := ?_) (v := ?_) (by rfl) rfl ?_ ?_
            rotate_left 2
            · go_simp
              constructor
              · rfl
              · rfl
            refine hK.out _ _ ⟨(World.cell?_alloc_lt _ _ _ (World.block_lt_of_cell? _ _ (((HB.out.cell (World.block_lt_of_cell? w _ hw108_0)).trans hw108_0)))).trans (((HB.out.cell (World.block_lt_of_cell? w _ hw108_0)).trans hw108_0)), (World.cell?_alloc_lt _ _ _ (World.block_lt_of_cell? _ _ (((HB.out.cell (World.block_lt_of_cell? w _ hw108_1)).trans hw108_1)))).trans (((HB.out.cell (World.block_lt_of_cell? w _ hw108_1)).trans hw108_1)), (World.cell?_alloc_lt _ _ _ (World.block_lt_of_cell? _ _ (((HB.out.cell (World.block_lt_of_cell? w _ hw108_2)).trans hw108_2)))).trans (((HB.out.cell (World.block_lt_of_cell? w _ hw108_2)).trans hw108_2)), (World.cell?_alloc_lt _ _ _ (World.block_lt_of_cell? _ _ (((HB.out.cell (World.block_lt_of_cell? w _ hw109_0)).trans hw109_0)))).trans (((HB.out.cell (World.block_lt_of_cell? w _ hw109_0)).trans hw109_0)), (World.cell?_alloc_lt _ _ _ (World.block_lt_of_cell? _ _ (((HB.out.cell (World.block_lt_of_cell? w _ hw109_1)).trans hw109_1)))).trans (((HB.out.cell (World.block_lt_of_cell? w _ hw109_1)).trans hw109_1)), (World.cell?_alloc_lt _ _ _ (World.block_lt_of_cell? _ _ (((HB.out.cell (World.block_lt_of_cell? w _ hw109_2)).trans hw109_2)))).trans (((HB.out.cell (World.block_lt_of_cell? w _ hw109_2)).trans hw109_2)), (World.cell?_alloc_lt _ _ _ (World.block_lt_of_cell? _ _ (((HB.out.cell (World.block_lt_of_cell? w _ hw110_0)).trans hw110_0)))).trans (((HB.out.cell (World.block_lt_of_cell? w _ hw110_0)).trans hw110_0)), (World.cell?_alloc_lt _ _ _ (World.block_lt_of_cell? _ _ (((HB.out.cell (World.block_lt_of_cell? w _ hw110_1)).trans hw110_1)))).trans (((HB.out.cell (World.block_lt_of_cell? w _ hw110_1)).trans hw110_1)), (World.cell?_alloc_lt _ _ _ (World.block_lt_of_cell? _ _ (((HB.out.cell (World.block_lt_of_cell? w _ hw110_2)).trans hw110_2)))).trans (((HB.out.cell (World.block_lt_of_cell? w _ hw110_2)).trans hw110_2))⟩ (fun hHeld => ?_)
            clear hK K
            refine norm_ (a' := ?_) ?_ ?_
            rotate_left
            · show Act.put _ (some 28) _ = _
              simp only [Act.put, List.setIfInBounds_toArray, List.set_cons_zero, List.set_cons_succ, i64_w, i32_w]
              rfl
            refine one_ (i := 18) (N := some 29) #[true, true, true, true, true, true, true, true, true, true, true, true, true, true, true, true, true, true, true, false] rfl rfl (one_of HT_.out (by kernel_rfl)) (by decide) (fun K hK => ?_)
            refine Kd.R_append_step k25 (w0 := w) w.heap.size (by rfl) (.tmp 11) (.tmp 28) 26 25 (.agg #[(.int .i64 0), (.int .i64 0), (.int .i64 0)]) 24 rfl Try.underlying26 info25 rfl (by decide) (by omega) u3 x3_1 (⟨(rd_T23 l0 x4_1).f0, (rd_T23 l0 x4_1).f1, (rd_T23 l0 x4_1).f2⟩ : S25) [.int .i64 ((rd_T23 l0 x4_1).f0), .int .i64 ((rd_T23 l0 x4_1).f1), .int .i64 ((rd_T23 l0 x4_1).f2)] (fun _ => True) (fun _ => False) rfl rfl ?aP (fun _ hk => hk.elim) ?aF ?aO ?aB ?aS ?aL ?_
            (case aP => exact k25_mkM _ _ _ (⟨(rd_T23 l0 x4_1).f0, (rd_T23 l0 x4_1).f1, (rd_T23 l0 x4_1).f2⟩ : S25))
            (case aB => exact (by repeat (first | (with_reducible first | exact HB.out | apply below_alloc | apply pw_below_drewN | apply below_drew1) | exact HB.out)))
            (case aF => exact (fun _ _ => trivial))
            (case aO => exact (by (with_reducible repeat (first | apply Kd.R_alloc | apply Kd.R_drewN | apply Kd.R_drew)); exact HO_3.out))
            (case aS => exact (below_size (by repeat (first | (with_reducible first | exact HB.out | apply below_alloc | apply pw_below_drewN | apply below_drew1) | exact HB.out))))
            (case aL => have := LMc4.out; omega)
            intro v112 w6 ho hb hg hat
            rw [← Ny111.out] at ho
            have n0_ := Aside0.mk (hb)
            have n1_ := Aside0.mk (ho)
            clear HB
            clear HO_3
            have HB := n0_
            have HO113 := n1_
            clear n0_ n1_
            clear ho hb hg hat
            refine hK.out _ _ ⟨((HB.out.cell (World.block_lt_of_cell? w _ hw108_0)).trans hw108_0), ((HB.out.cell (World.block_lt_of_cell? w _ hw108_1)).trans hw108_1), ((HB.out.cell (World.block_lt_of_cell? w _ hw108_2)).trans hw108_2), ((HB.out.cell (World.block_lt_of_cell? w _ hw109_0)).trans hw109_0), ((HB.out.cell (World.block_lt_of_cell? w _ hw109_1)).trans hw109_1), ((HB.out.cell (World.block_lt_of_cell? w _ hw109_2)).trans hw109_2), ((HB.out.cell (World.block_lt_of_cell? w _ hw110_0)).trans hw110_0), ((HB.out.cell (World.block_lt_of_cell? w _ hw110_1)).trans hw110_1), ((HB.out.cell (World.block_lt_of_cell? w _ hw110_2)).trans hw110_2)⟩ (fun hHeld => ?_)
            clear hK K
            refine norm_ (a' := ?_) ?_ ?_
            rotate_left
            · show Act.put _ (some 29) _ = _
              simp only [Act.put, List.setIfInBounds_toArray, List.set_cons_zero, List.set_cons_succ, i64_w, i32_w]
              rfl
            refine pure_ (i := 19) (N := some 3) (v := ?_) (a' := ?_) #[true, true, true, true, true, true, true, true, true, true, true, true, true, true, true, true, true, true, true, true] rfl rfl (any_of HT_.out (by kernel_rfl)) (fun _ _ _ h => h) (Or.inl ⟨by rfl, ?_⟩) ?_ ?_
            rotate_left
            · intro w'
              go_simp
              with_reducible rfl
            rotate_left
            · simp only [Act.put, List.setIfInBounds_toArray, List.set_cons_zero, List.set_cons_succ, i64_w, i32_w]
              rfl
            refine done_ (done_of HT_.out (by kernel_rfl)) ?_
            try go_wp2
            go_roundg k1
            case measure => have := HK1.out; omega
            case rel => exact ⟨(y111), (wrap64 (x4_1 + 1)), (by first | rfl | (simp; done) | (simp [*]; done)), H', ⟨by have := HK1.out; omega⟩, ⟨by (with_reducible repeat (first | apply Kd.R_alloc | apply Kd.R_drewN | apply Kd.R_drew)); exact HO113.out⟩, ⟨by repeat (first | (with_reducible first | exact HB.out | apply below_alloc | apply pw_below_drewN | apply below_drew1) | exact HB.out)⟩⟩
          · rw [if_neg c4] at H
            exact absurd H (by simp)
        · rw [if_neg c3] at H
          exact absurd H (by simp)
      · rw [if_neg c2] at H
        have c2b0 : decide (x4_1 < (l0.length : Int)) = false := decide_eq_false c2
        clear c2
        obtain rfl := Option.some.inj H
        go_wp2
        go_ret
        exact ⟨_, by first | rfl | (simp [errW_none, errW_some] <;> rfl) | (simp [*, errW_none, errW_some] <;> rfl), by (with_reducible repeat (first | apply Kd.R_alloc | apply Kd.R_drewN | apply Kd.R_drew)); exact HO_3.out, by repeat (first | (with_reducible first | exact HB.out | apply below_alloc | apply pw_below_drewN | apply below_drew1) | exact HB.out)⟩
end Go.Proofs.Ytcjeegomonegpaa.PLivePlays
namespace Go.Proofs.Ytcjeegomonegpaa.PLivePlays
open Go.RowKit Go.Maps Go.Sort Go.Proofs.YtcjeegomonegpaaW.PrintWords Go.Proofs.YtcjeegomonegpaaW.PrintLast Go.Proofs.YtcjeegomonegpaaW.PrintMore
set_option linter.unusedVariables false
set_option linter.unusedSimpArgs false
def cmpS (x y : S23) : Int := if x.f0 < y.f0 then -1 else if x.f0 > y.f0 then 1 else 0
theorem cmpS_f (x y : S23) : cmp_Compare_int.f x.f0 y.f0 = some (cmpS x y) := by
  unfold cmp_Compare_int.f cmp_isNaN_int.f cmpS
  by_cases h1 : x.f0 < y.f0
  · simp [h1]
  · by_cases h2 : x.f0 > y.f0
    · simp [h1, h2]
    · simp [h1, h2]
theorem ltS (x y : S23) : ltOf cmpS x y = decide (x.f0 < y.f0) := by
  unfold ltOf cmpS
  by_cases h1 : x.f0 < y.f0
  · simp [h1]
  · by_cases h2 : x.f0 > y.f0 <;> simp [h1, h2]
theorem swoS : SWO (ltOf cmpS) where
  irrefl x := by rw [ltS]; simp
  trans x y z h1 h2 := by rw [ltS] at *; simp at *; omega
  ntrans x y z h1 h2 := by rw [ltS] at *; simp at *; omega
theorem bySeq_calls (x y : S23) (W : World) : Calls Try.prog 33 #[.agg #[.int .i64 x.f0, .int .i64 x.f1, .int .i64 x.f2], .agg #[.int .i64 y.f0, .int .i64 y.f1, .int .i64 y.f2]] W fun e w' => e = .returned (.int .i64 (cmpS x y)) ∧ GrowOf W w' := by
  have hcon := fun W => cmp_Compare_int.calls x.f0 y.f0 (cmpS x y) W (cmpS_f x y)
  generalize cmpS x y = r at hcon ⊢
  obtain ⟨x0, x1, x2⟩ := x
  obtain ⟨y0, y1, y2⟩ := y
  simp only at hcon ⊢
  have hu23 := Try.underlying23
  go_enter Try.func33, Try.ntmps33
  go_wp2_with (fail)
  refine (hcon _).mono ?_
  rintro e w' ⟨rfl, ⟨n, rfl⟩⟩
  go_wp2_with (fail)
  go_ret
  exact ⟨rfl, n, #[.cells #[.int .i64 x0, .int .i64 x1, .int .i64 x2] 23, .cells #[.int .i64 y0, .int .i64 y1, .int .i64 y2] 23], by rw [alloc_eq_grow, alloc_eq_grow, grow_grow]; rfl⟩
theorem cmpLaysS (blk off size : Nat) (w : World) : CmpLays Try.prog 33 #[] rowL 3 cmpS blk off size w := fun _ _ _ _ x y => bySeq_calls x y _
theorem grown_sortK (g o n : Nat) (l : List S23) (d' : Array S23) (os : Array Obj) (w : World) : w.grownBy (sortWorldK rowL 3 w g o n d' os) (some g) := by
  unfold sortWorldK putRowK
  refine ⟨rfl, rfl, rfl, by simp [grow, Sort.ahead], fun k hk hne => ?_⟩
  have hkg : k ≠ g := fun e => hne (by rw [e])
  show ((putRow id (Sort.ahead w n) g o (flatK rowL 3 d')).heap ++ os)[k]? = _
  rw [Array.getElem?_append_left (by simp; exact hk)]
  have : g ≠ k := fun e => hkg e.symm
  simp [putRow, mapBlock, Sort.ahead, Array.getElem?_modify, this]
set_option maxHeartbeats 1000000 in
theorem sort_holds (g o cap : Nat) (l : List S23) (w : World) (hH : HoldsK rowL 3 w g o l.toArray) (hg : g < w.heap.size) (hl : l.length ≤ 1000000) :
    Calls Try.prog 32 #[.slice (some ⟨g, o, none⟩) l.length cap, .func (.func 33) #[] #[]] w fun e w' => e = .returned (.tuple #[]) ∧ ∃ l' : List S23, l'.Perm l ∧ l'.Pairwise (fun x y => ¬ y.f0 < x.f0) ∧ HoldsK rowL 3 w' g o l'.toArray ∧ w.grownBy w' (some g) := by
  have eg : ∀ args w, (callFunc 33 args).run Try.prog w = .ok (.enter 33 args) w := enters_of Try.func33 (by kernel_rfl) rfl
  have hcon := AnyQ.slices_SortFunc sortRow 3 Try.isAgg23 Try.sizeOf23 rowL (fun _ => rfl) rowL_one cmpS swoS 33 #[] g o cap l.toArray w eg (cmpLaysS g o l.toArray.size w) hH hg (by simp; omega)
  change Calls Try.prog 32 _ _ _ at hcon
  rw [List.size_toArray] at hcon
  refine hcon.mono fun e w' ⟨he, d', n, os, hp, hs, hw⟩ => ⟨he, d'.toList, ?_, ?_, ?_, ?_⟩
  · obtain ⟨h1, h2, h3⟩ := hp
    have e1 : d'.extract 0 l.toArray.size = d' := by rw [← h1]; simp
    have e2 : l.toArray.extract 0 l.toArray.size = l.toArray := by simp
    rw [List.size_toArray] at e1 e2
    rw [e1, e2] at h3
    exact h3
  · rw [List.pairwise_iff_getElem]
    intro i j hi hj hij
    have h1 := hs i j (Nat.zero_le _) hij (by have := hp.1; simp at this hj; omega)
    rw [ltS] at h1
    have hj' : j < d'.size := by simpa using hj
    have hi' : i < d'.size := by simpa using hi
    rw [getElem!_pos d' j hj', getElem!_pos d' i hi'] at h1
    simpa using h1
  · subst hw
    have := holdsK_sortWorldK_c rowL 3 w g o l.toArray d' n os hH hg (by have := hp.1; simpa using this)
    simpa using this
  · subst hw
    exact grown_sortK g o n l d' os w
theorem sorted_eq : ∀ {l T : List S23}, l.Perm T → l.Pairwise (fun x y => x.f0 < y.f0) → T.Pairwise (fun x y => x.f0 < y.f0) → l = T
  | [], T, hp, _, _ => by rw [hp.nil_eq]
  | a :: l, [], hp, _, _ => absurd hp.eq_nil (by simp)
  | a :: l, b :: T, hp, h1, h2 => by
    obtain ⟨q1, q2⟩ := List.pairwise_cons.1 h1
    obtain ⟨r1, r2⟩ := List.pairwise_cons.1 h2
    have hab : a = b := by
      rcases List.mem_cons.1 (hp.subset (List.mem_cons_self (a := a) (l := l))) with e | e
      · exact e
      · rcases List.mem_cons.1 (hp.symm.subset (List.mem_cons_self (a := b) (l := T))) with e' | e'
        · exact e'.symm
        · have := r1 a e
          have := q1 b e'
          omega
    subst hab
    rw [sorted_eq (List.perm_cons a |>.1 hp) q2 r2]
theorem sorted_uniq {l T : List S23} (hp : l.Perm T) (hl : l.Pairwise (fun x y => ¬ y.f0 < x.f0)) (hT : T.Pairwise (fun x y => x.f0 < y.f0)) : l = T := by
  have h1 : l.Pairwise (fun x y => x.f0 ≠ y.f0) := (hp.pairwise_iff (fun {_ _} h => Ne.symm h)).2 (hT.imp (fun h => by omega))
  refine sorted_eq hp ?_ hT
  exact List.Pairwise.imp₂ (fun _ _ h1 h2 => by omega) hl h1
set_option maxHeartbeats 1000000 in
theorem sortedfunc_calls (b N : Nat) (hN : N ≤ 1000000) (T : List S23) (hT0 : T ≠ []) (w : World) (Bm : Nat) (hm : w.heap[Bm]? = some (.cells #[.map (some b)] 77 (0, 0))) (hT : TMap w b N T) :
    Calls Try.prog 45 #[.func (.func 63) #[] #[.pointer (some ⟨Bm, 0, none⟩)], .func (.func 33) #[] #[]] w fun e w' => ∃ v, e = .returned v ∧ SlR w' w.heap.size v T ∧ Below w.heap.size w w' := by
  have hTl : T.length ≤ N := hT.1
  have hTs : T.Pairwise (fun x y => x.f0 < y.f0) := by obtain ⟨_, D, _, h⟩ := hT; exact h.1
  have HC := collect_calls b N hN T w Bm hm hT
  clear hT hm
  go_enter Try.func45, Try.ntmps45
  go_wp2_with (fail)
  refine HC.mono ?_
  rintro e w1 ⟨xs, v, rfl, hp, hown, hb⟩
  have hxl : xs.length = T.length := hp.length_eq
  rcases SlR.of_own hown with ⟨-, h0⟩ | ⟨gs, o, cap, rfl, hgs, hgl, hcap, hh⟩
  · subst h0
    exact absurd hp.nil_eq.symm hT0
  · have HS := Aside0.mk (sort_holds gs o cap xs w1 hh hgl (by omega))
    have HXL := Aside0.mk hxl
    clear hown hh hxl
    go_wp2_with (fail)
    refine HS.out.mono ?_
    rintro e w2 ⟨rfl, l', hp2, hs2, hh2, hg2⟩
    go_wp2_with (fail)
    go_ret
    have e1 : l' = T := sorted_uniq (hp2.trans hp) (hs2.imp (fun h => by omega)) hTs
    subst e1
    exact ⟨_, rfl, .inr ⟨gs, o, cap, by first | rfl | (rw [HXL.out]; rfl), hgs, Nat.lt_of_lt_of_le hgl hg2.size, by rw [← HXL.out]; exact hcap, hh2⟩, hb.grown hg2 hb.size (fun j hj => by obtain rfl := Option.some.inj hj; exact hgs)⟩
theorem rows_calls (g N : Nat) (hN : N ≤ 1000000) (T : List S23) (hT0 : T ≠ []) (w : World) (hT : Tb w g N T) :
    Calls Try.prog 25 #[.pointer (some ⟨g, 0, none⟩)] w fun e w' => ∃ v, e = .returned v ∧ SlR w' w.heap.size v T ∧ Below w.heap.size w w' := by
  obtain ⟨b, hg, hM⟩ := hT
  have hu77 := Try.underlying77
  have hu79 := Try.underlying79
  have c0 : w.cell? ⟨g, 0, none⟩ = some (.map (some b)) := (blk_cell hg 0).trans rfl
  have hS := sortedfunc_calls b N hN T hT0 (w.alloc (.cells #[.map (some b)] 77)) w.heap.size (blk_new w _) (hM.below (below_alloc (Below.refl _ _) _))
  go_enter Try.func25, Try.ntmps25
  go_wp2_with (fail)
  refine (val_plain _ _).mono ?_
  rintro e w' ⟨rfl, rfl⟩
  go_wp2_with (fail)
  refine hS.mono ?_
  rintro e w' ⟨v, rfl, hv, hb⟩
  go_wp2_with (fail)
  go_ret
  have hsz : (w.alloc (.cells #[.map (some b)] 77)).heap.size = w.heap.size + 1 := World.size_alloc _ _
  refine ⟨_, rfl, ?_, below_step (below_alloc (Below.refl _ _) _) hb⟩
  rcases hv with h | ⟨gs, o, cap, h1, h2, h3⟩
  · exact .inl h
  · exact .inr ⟨gs, o, cap, h1, by omega, h3⟩
end Go.Proofs.Ytcjeegomonegpaa.PLivePlays
namespace Go.Proofs.Ytcjeegomonegpaa.PLivePlays
open Go.RowKit Go.Maps Go.Sort Go.Proofs.YtcjeegomonegpaaW.PrintWords Go.Proofs.YtcjeegomonegpaaW.PrintLast Go.Proofs.YtcjeegomonegpaaW.PrintMore
set_option linter.unusedVariables false
set_option linter.unusedSimpArgs false
section
variable (P : S23 → Prop) [DecidablePred P] (z : S23)
def fixR (x : S23) : S23 := if P x then x else z
def encP (x : S23) : List Value := rowL (fixR P z x)
def cmpQ (x y : S23) : Int := cmpP (fixR P z x) (fixR P z y)
variable {P z}
theorem fixR_of {x : S23} (h : P x) : fixR P z x = x := if_pos h
theorem fixR_ok (hz : P z) (x : S23) : P (fixR P z x) := by
  unfold fixR
  split
  · assumption
  · exact hz
theorem holds_encP {w : World} {g o : Nat} {l : List S23} (hl : ∀ x ∈ l, P x) : HoldsK (encP P z) 3 w g o l.toArray ↔ HoldsK rowL 3 w g o l.toArray := by
  have e : flatK (encP P z) 3 l.toArray = flatK rowL 3 l.toArray := by
    refine ext_get! (by simp) fun t ht => ?_
    have ht' : t < l.length * 3 := by simpa using ht
    rw [get_flatK _ _ _ _ (by simpa using ht'), get_flatK _ _ _ _ (by simpa using ht'), arr_bang _ _ (by omega)]
    unfold encP
    rw [fixR_of (hl _ (List.getElem_mem _))]
  unfold HoldsK
  rw [e]
theorem cmpLaysQ (hz : P z) (hP : ∀ x, P x → PartOk x) (blk off size : Nat) (w : World) : CmpLays Try.prog 43 #[] (encP P z) 3 (cmpQ P z) blk off size w := fun _ _ _ _ x y =>
  less_calls (fixR P z x) (fixR P z y) (hP _ (fixR_ok hz x)) (hP _ (fixR_ok hz y)) _
set_option maxHeartbeats 1000000 in
theorem insert_holds (hz : P z) (hP : ∀ x, P x → PartOk x) (hS : SWO (ltOf (cmpQ P z))) (g o cap : Nat) (l : List S23) (hl : ∀ x ∈ l, P x) (w : World) (hH : HoldsK rowL 3 w g o l.toArray) (hg : g < w.heap.size) (hn : l.length ≤ 1000000) :
    Calls Try.prog 67 #[.slice (some ⟨g, o, none⟩) l.length cap, .int .i64 0, .int .i64 (l.length : Int), .func (.func 43) #[] #[]] w fun e w' => e = .returned (.tuple #[]) ∧ ∃ l' : List S23, l'.Perm l ∧ l'.Pairwise (fun x y => ltOf (cmpQ P z) y x = false) ∧ HoldsK rowL 3 w' g o l'.toArray ∧ w.grownBy w' (some g) := by
  have eg : ∀ args w, (callFunc 43 args).run Try.prog w = .ok (.enter 43 args) w := enters_of Try.func43 (by kernel_rfl) rfl
  have hcon := AnyQ.insertionSortCmpFunc insertRow 3 Try.isAgg23 Try.sizeOf23 (encP P z) (fun _ => rfl) (fun x => rowL_one _) (cmpQ P z) 43 #[] g o cap 0 l.length l.toArray w eg (cmpLaysQ hz hP g o l.toArray.size w) ((holds_encP hl).2 hH) hg (Nat.zero_le _) (by simp) (by simp; omega)
  change Calls Try.prog 67 _ _ _ at hcon
  rw [List.size_toArray] at hcon
  refine hcon.mono fun e w' ⟨he, n, os, hw⟩ => ⟨he, (Sort.insertionSort (ltOf (cmpQ P z)) l.toArray 0 l.length).toList, ?_⟩
  obtain ⟨hp, hs⟩ := insertionSort_holds (lt := ltOf (cmpQ P z)) hS l.toArray 0 l.length (Nat.zero_le _) (by simp)
  generalize Sort.insertionSort (ltOf (cmpQ P z)) l.toArray 0 l.length = d' at hp hs hw
  have hperm : d'.toList.Perm l := by
    obtain ⟨h1, h2, h3⟩ := hp
    have e1 : d'.extract 0 l.toArray.size = d' := by rw [← h1]; simp
    have e2 : l.toArray.extract 0 l.toArray.size = l.toArray := by simp
    rw [List.size_toArray] at e1 e2
    rw [e1, e2] at h3
    exact h3
  refine ⟨hperm, ?_, ?_, ?_⟩
  · rw [List.pairwise_iff_getElem]
    intro i j hi hj hij
    have h1 := hs i j (Nat.zero_le _) hij (by have := hp.1; simp at this hj; omega)
    have hj' : j < d'.size := by simpa using hj
    have hi' : i < d'.size := by simpa using hi
    rw [getElem!_pos d' j hj', getElem!_pos d' i hi'] at h1
    simpa using h1
  · subst hw
    have := holdsK_sortWorldK_c (encP P z) 3 w g o l.toArray d' n os ((holds_encP hl).2 hH) hg (by have := hp.1; simpa using this)
    have h2 : HoldsK (encP P z) 3 (sortWorldK (encP P z) 3 w g o n d' os) g o d'.toList.toArray := by simpa using this
    exact (holds_encP (fun x hx => hl x (hperm.subset hx))).1 h2
  · subst hw
    have e : sortWorldK (encP P z) 3 w g o n d' os = sortWorldK rowL 3 w g o n d' os := by
      unfold sortWorldK putRowK
      congr 2
      have h := hperm
      refine ext_get! (by simp) fun t ht => ?_
      have ht' : t < d'.size * 3 := by simpa using ht
      rw [get_flatK _ _ _ _ ht', get_flatK _ _ _ _ ht']
      have hi : t / 3 < d'.size := by omega
      rw [getElem!_pos d' (t / 3) hi]
      unfold encP
      rw [fixR_of (hl _ (hperm.subset (by rw [Array.mem_toList_iff]; exact Array.getElem_mem hi)))]
    rw [e]
    exact grown_sortK g o n l d' os w
set_option maxHeartbeats 1000000 in
theorem stable_calls (hz : P z) (hP : ∀ x, P x → PartOk x) (hS : SWO (ltOf (cmpQ P z))) (g o cap : Nat) (l : List S23) (hl : ∀ x ∈ l, P x) (w : World) (hH : HoldsK rowL 3 w g o l.toArray) (hg : g < w.heap.size) (hn : l.length < 20) :
    Calls Try.prog 42 #[.slice (some ⟨g, o, none⟩) l.length cap, .func (.func 43) #[] #[]] w fun e w' => e = .returned (.tuple #[]) ∧ ∃ l' : List S23, l'.Perm l ∧ l'.Pairwise (fun x y => ltOf (cmpQ P z) y x = false) ∧ HoldsK rowL 3 w' g o l'.toArray ∧ w.grownBy w' (some g) := by
  have HI := Aside0.mk (insert_holds hz hP hS g o cap l hl w hH hg (by omega))
  have h60 : Calls Try.prog 60 #[.slice (some ⟨g, o, none⟩) l.length cap, .int .i64 (l.length : Int), .func (.func 43) #[] #[]] w fun e w' => e = .returned (.tuple #[]) ∧ Aside0 (∃ l' : List S23, l'.Perm l ∧ l'.Pairwise (fun x y => ltOf (cmpQ P z) y x = false) ∧ HoldsK rowL 3 w' g o l'.toArray ∧ w.grownBy w' (some g)) := by
    clear hH hl
    have hne : ¬ (20 : Int) ≤ (l.length : Int) := by omega
    have hne2 : ¬ (20 : Int) < (l.length : Int) := by omega
    go_enter Try.func60, Try.ntmps60
    go_wp2
    refine wp_loop_rounds 1 ?_
    rw [rounds_succ]
    go_wp2_with (fail)
    refine HI.out.mono ?_
    rintro e w' ⟨rfl, h⟩
    have H := Aside0.mk h
    clear h
    go_wp2_with (fail)
    refine wp_loop_rounds 1 ?_
    rw [rounds_succ]
    go_wp2_with (fail)
    go_end0
    exact ⟨rfl, H⟩
  clear HI hH hl
  go_enter Try.func42, Try.ntmps42
  go_wp2_with (fail)
  refine h60.mono ?_
  rintro e w' ⟨rfl, H⟩
  go_wp2_with (fail)
  go_end0
  exact ⟨rfl, H.out⟩
end
end Go.Proofs.Ytcjeegomonegpaa.PLivePlays
namespace Go.Proofs.Ytcjeegomonegpaa.PLivePlays
open Go.RowKit Go.Maps Go.Sort Go.Proofs.YtcjeegomonegpaaW.PrintWords Go.Proofs.YtcjeegomonegpaaW.PrintLast Go.Proofs.YtcjeegomonegpaaW.PrintMore
set_option linter.unusedVariables false
set_option linter.unusedSimpArgs false
theorem infoI : (Try.prog.info? 3).map (fun i => (i.zero, i.size, i.bytes)) = some (some (.int .i64 0), 1, 8) := by kernel_rfl
def seqsV (l : List S23) : List Value := l.map fun x => .int .i64 x.f0
theorem seqs_step {l : List S23} {k : Nat} (h : k < l.length) : seqsV (l.take (k + 1)) = seqsV (l.take k) ++ [.int .i64 l[k].f0] := by
  unfold seqsV
  rw [List.take_add_one, List.getElem?_eq_getElem h, List.map_append]
  rfl
section
variable {P : S23 → Prop} [DecidablePred P] {z : S23}
set_option maxRecDepth 100000 in
set_option maxHeartbeats 4000000 in
theorem victims_calls (hz : P z) (hP : ∀ x, P x → PartOk x) (hS : SWO (ltOf (cmpQ P z))) (g N : Nat) (hN : N ≤ 1000000) (T : List S23) (hT0 : T ≠ []) (hTP : ∀ x ∈ T, P x) (hTn : T.length < 20) (pct : Int) (w : World) (hT : Tb w g N T) :
    Calls Try.prog 22 #[.pointer (some ⟨g, 0, none⟩), .int .i64 pct] w fun e w' => ∃ v l', e = .returned v ∧ l'.Perm (T.filter fun x => !dead pct x) ∧ l'.Pairwise (fun x y => ltOf (cmpQ P z) y x = false) ∧ w'.ownsRow w.heap.size 3 1 v l'.length (seqsV l') ∧ Below w.heap.size w w' := by
  have hu28 := Try.underlying28
  have hu23 := Try.underlying23
  have hu3 := Try.underlying3
  have hu47 := Try.underlying47
  obtain ⟨i0, hi0, hz0, hz1, hz2⟩ := info_parts infoI
  have HR := Aside0.mk (rows_calls g N hN T hT0 (w.alloc (.cells #[.int .i64 pct] 3)) (hT.below (below_alloc (Below.refl _ _) _)))
  have HBp := Aside0.mk (Boxed.new w 3 (.int .i64 pct))
  have HBw := Aside0.mk (below_alloc (Below.refl w.heap.size w) (.cells #[.int .i64 pct] 3))
  have HSz := Aside0.mk (World.size_alloc w (.cells #[.int .i64 pct] 3))
  clear hT
  go_enter Try.func22, Try.ntmps22
  go_wp2_with (fail)
  generalize (w.alloc (.cells #[.int .i64 pct] 3)) = wa at HR HBp HBw HSz ⊢
  refine HR.out.mono ?_
  rintro e w1 ⟨v, rfl, hv, hb1⟩
  rcases hv with ⟨-, h0⟩ | ⟨gs, o, cap, rfl, hgs, hgl, hcap, hh⟩
  · exact absurd h0 hT0
  have HB1 := Aside0.mk (below_step HBw.out hb1)
  have HD := Aside0.mk (delete_calls pct w.heap.size gs o cap T w1 hh hgl (by have := HSz.out; omega) (blk_below HBp.out hb1) (by omega) hcap)
  have HGS := Aside0.mk (show w.heap.size ≤ gs by have := HSz.out; omega)
  have HGL := Aside0.mk hgl
  clear hh hb1 hgs hgl hcap
  go_wp2_with (fail)
  refine HD.out.mono ?_
  rintro e w2 ⟨rfl, hh2, hg2⟩
  have hlen := List.length_filter_le (fun x => !dead pct x) T
  have hmem : ∀ x ∈ T.filter (fun x => !dead pct x), P x := fun x hx => hTP x (List.mem_filter.1 hx).1
  have HW1 := Aside0.mk (rfl : (T.filter fun x => !dead pct x) = T.filter fun x => !dead pct x)
  generalize hF : (T.filter fun x => !dead pct x) = F at hh2 hlen hmem ⊢
  clear HW1 HD
  have HL := Aside0.mk hlen
  have HSt := Aside0.mk (stable_calls hz hP hS gs o cap F hmem w2 hh2 (Nat.lt_of_lt_of_le HGL.out hg2.size) (by omega))
  have HB2 := Aside0.mk (HB1.out.grown hg2 HB1.out.size (fun j hj => by obtain rfl := Option.some.inj hj; exact HGS.out))
  have HGL2 := Aside0.mk (Nat.lt_of_lt_of_le HGL.out hg2.size)
  have HF := Aside0.mk hF
  clear hh2 hg2 HB1 HGL hmem hlen hF
  go_wp2_with (fail)
  refine HSt.out.mono ?_
  rintro e w3 ⟨rfl, l', hp3, hs3, hh3, hg3⟩
  have HP3 := Aside0.mk hp3
  have HS3 := Aside0.mk hs3
  have HH3 := Aside0.mk hh3
  have HB3 := Aside0.mk (HB2.out.grown hg3 HB2.out.size (fun j hj => by obtain rfl := Option.some.inj hj; exact HGS.out))
  have HGL3 := Aside0.mk (Nat.lt_of_lt_of_le HGL2.out hg3.size)
  have hfl : F.length = l'.length := hp3.length_eq.symm
  have hl20 : l'.length < 20 := by have := HL.out; omega
  rw [hfl]
  clear hp3 hs3 hh3 hg3 HB2 HSt HGL2 hfl
  go_wp2_with (fail)
  go_loopw [6, 17] (fun v6 v17 wr => ∃ k : Nat, k ≤ l'.length ∧ v17 = .int .i64 k ∧ Aside0 (wr.ownsRow w3.heap.size 3 1 v6 k (seqsV (l'.take k))) ∧ Aside0 (Below w3.heap.size w3 wr)) (fun _ v17 _ => l'.length - (intOf v17).toNat)
  case atStart => exact ⟨0, Nat.zero_le _, rfl, ⟨World.ownsRow_nil _ _ _ _⟩, ⟨Below.refl _ _⟩⟩
  case round =>
    as_aux_lemma =>
      obtain ⟨k, hk, rfl, HO, HB⟩ := hrel
      by_cases hlt : k < l'.length
      · have hk1 : k + 1 ≤ l'.length := hlt
        have hh := holds_below HH3.out HB.out HGL3.out
        obtain ⟨⟨c0, c1, c2⟩, -⟩ := three_cells hh hlt
        clear hh
        generalize hx : l'[k] = x at c0 c1 c2
        have HX := Aside0.mk hx
        clear hx
        obtain ⟨x0, x1, x2⟩ := x
        simp only at c0 c1 c2
        have hown := HO.out.alloc (.cells #[.int .i64 x0, .int .i64 x1, .int .i64 x2] 23)
        have hbs := HB.out.size
        have hown2 := hown.alloc (.cells #[.int .i64 x0] 3)
        have hsz2 : (wr.alloc (.cells #[.int .i64 x0, .int .i64 x1, .int .i64 x2] 23)).heap.size = wr.heap.size + 1 := World.size_alloc _ _
        have hnw := cell_one_new (wr.alloc (.cells #[.int .i64 x0, .int .i64 x1, .int .i64 x2] 23)) (.int .i64 x0) 3
        rw [hsz2] at hnw
        have HBa := Aside0.mk (below_alloc HB.out (.cells #[.int .i64 x0, .int .i64 x1, .int .i64 x2] 23))
        go_wp2_with (at_builtin; refine wpList_append_own _ rfl _ _ 47 rfl w3.heap.size 3 i0 (.int .i64 0) 1 8 Try.underlying47 hi0 hz0 hz1 hz2 rfl (by decide) _ k _ rfl hown2 ⟨wr.heap.size + 1, 0, none⟩ 1 1 [.int .i64 x0] rfl rfl hnw (by simp [Value.oneCell']) (by unfold maxLen; omega) (by omega) (by simp; omega) ?_; intro v' w5 hown' hgrow _)
        have hB4 := below_alloc HBa.out (.cells #[.int .i64 x0] 3)
        refine ⟨⟨k + 1, hk1, by go_num, ⟨?_⟩, ⟨hB4.grown hgrow hB4.size (fun j hj => own_base hown2 j hj)⟩⟩, by simp [intOf]; omega⟩
        rw [seqs_step hlt, HX.out]
        exact hown'
      · have : k = l'.length := by omega
        subst this
        go_wp2_with (fail)
        go_ret
        refine ⟨_, l', rfl, by rw [HF.out]; exact HP3.out, HS3.out, ?_, ?_⟩
        · have h := own_weaken HO.out HB3.out.size
          rw [List.take_length] at h
          exact h
        · exact below_step HB3.out HB.out
end
end Go.Proofs.Ytcjeegomonegpaa.PLivePlays
