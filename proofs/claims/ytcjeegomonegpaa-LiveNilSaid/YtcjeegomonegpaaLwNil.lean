/- The walk of LiveNil. Conditions: what each theorem says. -/
import Derived.Test.YtcjeegomonegpaaLvN
namespace Go.Proofs.Ytcjeegomonegpaa.PLivePlays
open Go.RowKit Go.Maps Go.Sort Go.Proofs.YtcjeegomonegpaaW.PrintWords Go.Proofs.YtcjeegomonegpaaW.PrintLast Go.Proofs.YtcjeegomonegpaaW.PrintMore
set_option linter.unusedVariables false
set_option linter.unusedSimpArgs false
set_option maxRecDepth 100000 in
set_option maxHeartbeats 4000000 in
theorem few1 (g : Nat) (ask seq : Int) (A2 A3 A4 : Option Addr) (n2 c2 n3 c3 n4 c4 : Nat) (w : World) (hb : w.heap[g]? = some (.cells #[.int .i64 ask, .int .i64 seq, .slice A2 n2 c2, .slice A3 n3 c3, .slice A4 n4 c4] 46 (0, 0))) :
    Calls Try.prog 20 #[.slice (some ⟨g, 0, none⟩) 1 1] w fun e w' => (e = .returned (.bool true) ∨ e = .returned (.bool false)) ∧ w' = w := by
  have hu28 := Try.underlying28
  have hu33 := Try.underlying33
  have hu38 := Try.underlying38
  have hu46 := Try.underlying46
  have k2 : w.cell? ⟨g, 2, none⟩ = some (.slice A2 n2 c2) := (blk_cell hb 2).trans rfl
  have k3 : w.cell? ⟨g, 3, none⟩ = some (.slice A3 n3 c3) := (blk_cell hb 3).trans rfl
  have k4 : w.cell? ⟨g, 4, none⟩ = some (.slice A4 n4 c4) := (blk_cell hb 4).trans rfl
  clear hb
  by_cases h2 : (20 : Int) < (n2 : Int)
  · go_enter Try.func20, Try.ntmps20
    go_wp2
    refine wp_loop_rounds 1 ?_
    rw [rounds_succ]
    go_wp2
    go_ret
    exact ⟨.inr rfl, rfl⟩
  · by_cases h3 : (20 : Int) < (n3 : Int)
    · go_enter Try.func20, Try.ntmps20
      go_wp2
      refine wp_loop_rounds 1 ?_
      rw [rounds_succ]
      go_wp2
      go_ret
      exact ⟨.inr rfl, rfl⟩
    · by_cases h4 : (20 : Int) < (n4 : Int)
      · go_enter Try.func20, Try.ntmps20
        go_wp2
        refine wp_loop_rounds 1 ?_
        rw [rounds_succ]
        go_wp2
        go_ret
        exact ⟨.inr rfl, rfl⟩
      · go_enter Try.func20, Try.ntmps20
        go_wp2
        refine wp_loop_rounds 2 ?_
        rw [rounds_succ]
        go_wp2
        rw [rounds_succ]
        go_wp2
        go_ret
        exact ⟨.inl rfl, rfl⟩
set_option maxRecDepth 100000 in
set_option maxHeartbeats 8000000 in
theorem nil_walk (ask seq : Int) (A2 A3 A4 : Option Addr) (n2 c2 n3 c3 n4 c4 : Nat) (w : World) :
    Calls Try.prog 9 #[.agg #[.int .i64 ask, .int .i64 seq, .slice A2 n2 c2, .slice A3 n3 c3, .slice A4 n4 c4]] w fun e w' => e = .returned (.bool true) ∧ Below w.heap.size w w' := by
  have hu28 := Try.underlying28
  have hu33 := Try.underlying33
  have hu38 := Try.underlying38
  have hu46 := Try.underlying46
  have hu23 := Try.underlying23
  have hu47 := Try.underlying47
  have HB := Aside0.mk (below_alloc (below_alloc (Below.refl w.heap.size w) (.cells #[.int .i64 ask, .int .i64 seq, .slice A2 n2 c2, .slice A3 n3 c3, .slice A4 n4 c4] 46)) (.cells #[.int .i64 ask, .int .i64 seq, .slice A2 n2 c2, .slice A3 n3 c3, .slice A4 n4 c4] 46))
  have HX := Aside0.mk (blk_alloc (blk_new w (.cells #[.int .i64 ask, .int .i64 seq, .slice A2 n2 c2, .slice A3 n3 c3, .slice A4 n4 c4] 46)) (.cells #[.int .i64 ask, .int .i64 seq, .slice A2 n2 c2, .slice A3 n3 c3, .slice A4 n4 c4] 46))
  have HN := Aside0.mk (blk_new (w.alloc (.cells #[.int .i64 ask, .int .i64 seq, .slice A2 n2 c2, .slice A3 n3 c3, .slice A4 n4 c4] 46)) (.cells #[.int .i64 ask, .int .i64 seq, .slice A2 n2 c2, .slice A3 n3 c3, .slice A4 n4 c4] 46))
  rw [World.size_alloc] at HN
  go_enter Try.func9, Try.ntmps9
  go_wp2_with (fail)
  generalize ((w.alloc (.cells #[.int .i64 ask, .int .i64 seq, .slice A2 n2 c2, .slice A3 n3 c3, .slice A4 n4 c4] 46)).alloc (.cells #[.int .i64 ask, .int .i64 seq, .slice A2 n2 c2, .slice A3 n3 c3, .slice A4 n4 c4] 46)) = wa at HB HX HN ⊢
  refine (few1 (w.heap.size + 1) ask seq A2 A3 A4 n2 c2 n3 c3 n4 c4 wa HN.out).mono ?_
  rintro e wa' ⟨hq, rfl⟩
  clear HN
  rcases hq with rfl | rfl
  · have k1 : wa'.cell? ⟨w.heap.size, 1, none⟩ = some (.int .i64 seq) := (blk_cell HX.out 1).trans rfl
    have k2 : wa'.cell? ⟨w.heap.size, 2, none⟩ = some (.slice A2 n2 c2) := (blk_cell HX.out 2).trans rfl
    have k3 : wa'.cell? ⟨w.heap.size, 3, none⟩ = some (.slice A3 n3 c3) := (blk_cell HX.out 3).trans rfl
    have k4 : wa'.cell? ⟨w.heap.size, 4, none⟩ = some (.slice A4 n4 c4) := (blk_cell HX.out 4).trans rfl
    go_wp2_with (fail)
    refine (nil_get seq _).mono ?_
    rintro e wb ⟨rfl, hb⟩
    have HB2 := Aside0.mk (below_alloc (below_step HB.out hb) (.cells #[.int .i64 0, .int .i64 0, .int .i64 0] 23))
    have HX2 := Aside0.mk (blk_alloc (blk_below HX.out hb) (.cells #[.int .i64 0, .int .i64 0, .int .i64 0] 23))
    clear HB HX hb k1 k2 k3 k4
    have HB := HB2
    have HX := HX2
    clear HB2 HX2
    go_wp2_with (fail)
    generalize (wb.alloc (.cells #[.int .i64 0, .int .i64 0, .int .i64 0] 23)) = wc at HB HX ⊢
    refine (nil_sum _).mono ?_
    rintro e wc' ⟨rfl, rfl⟩
    have k1 : wc'.cell? ⟨w.heap.size, 1, none⟩ = some (.int .i64 seq) := (blk_cell HX.out 1).trans rfl
    have k2 : wc'.cell? ⟨w.heap.size, 2, none⟩ = some (.slice A2 n2 c2) := (blk_cell HX.out 2).trans rfl
    have k3 : wc'.cell? ⟨w.heap.size, 3, none⟩ = some (.slice A3 n3 c3) := (blk_cell HX.out 3).trans rfl
    have k4 : wc'.cell? ⟨w.heap.size, 4, none⟩ = some (.slice A4 n4 c4) := (blk_cell HX.out 4).trans rfl
    go_wp2_with (fail)
    refine (nil_add _ _ _ _).mono ?_
    rintro e wc'' ⟨rfl, rfl⟩
    go_wp2_with (fail)
    refine (nil_drop _ _).mono ?_
    rintro e wd ⟨rfl, hb⟩
    have HB2 := Aside0.mk (below_step HB.out hb)
    have HX2 := Aside0.mk (blk_below HX.out hb)
    clear HB HX hb k1 k2 k3 k4
    have HB := HB2
    have HX := HX2
    clear HB2 HX2
    have k1 : wd.cell? ⟨w.heap.size, 1, none⟩ = some (.int .i64 seq) := (blk_cell HX.out 1).trans rfl
    have k2 : wd.cell? ⟨w.heap.size, 2, none⟩ = some (.slice A2 n2 c2) := (blk_cell HX.out 2).trans rfl
    have k3 : wd.cell? ⟨w.heap.size, 3, none⟩ = some (.slice A3 n3 c3) := (blk_cell HX.out 3).trans rfl
    have k4 : wd.cell? ⟨w.heap.size, 4, none⟩ = some (.slice A4 n4 c4) := (blk_cell HX.out 4).trans rfl
    go_wp2_with (fail)
    refine (nil_change _ _ _ _ _ _ _).mono ?_
    rintro e wd' ⟨rfl, rfl⟩
    go_wp2_with (fail)
    refine (nil_rows _).mono ?_
    rintro e wd'' ⟨rfl, rfl⟩
    go_wp2_with (fail)
    refine (nil_victims _ _).mono ?_
    rintro e wf ⟨rfl, hb⟩
    have HB2 := Aside0.mk (below_step HB.out hb)
    clear HB HX hb k1 k2 k3 k4
    go_wp2_with (fail)
    refine (awake_calls _).mono ?_
    rintro e wg ⟨rfl, hb⟩
    have HB3 := Aside0.mk (below_step HB2.out hb)
    clear hb
    go_wp2_with (fail)
    go_ret
    exact ⟨rfl, HB3.out⟩
  · go_wp2_with (fail)
    refine (awake_calls _).mono ?_
    rintro e wg ⟨rfl, hb⟩
    have HB3 := Aside0.mk (below_step HB.out hb)
    clear hb
    go_wp2_with (fail)
    go_ret
    exact ⟨rfl, HB3.out⟩
end Go.Proofs.Ytcjeegomonegpaa.PLivePlays
