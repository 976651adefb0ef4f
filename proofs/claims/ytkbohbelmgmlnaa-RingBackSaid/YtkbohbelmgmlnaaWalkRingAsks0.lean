/- The walk of RingAsks, a theorem for each way (the text is printed by a program of this session, wip/ring/asks.py). Conditions: what each theorem says. -/
import Derived.Test.YtkbohbelmgmlnaaWalkRingTurns
import Derived.Test.YtkbohbelmgmlnaaAsksFuns
import Derived.Deep.RegionHeld3
namespace Go.Proofs.Ytkbohbelmgmlnaa.PRingAsks
open Go.RowKit Go.Proofs.YtkbohbelmgmlnaaW.PrintWords Go.Proofs.YtkbohbelmgmlnaaW.PrintLast Go.Proofs.YtkbohbelmgmlnaaW.PrintMore
attribute [local go_sem high] eqA23
set_option linter.unusedVariables false
set_option linter.unusedSimpArgs false

theorem held_of {W : World} {g : Nat} {a b c : Value} (h : W.heap[g]? = some (.cells #[a, b, c] 23 (0, 0))) :
    W.heap[g]? = some (.cells #[a, b, c] 23 (0, 0)) ∧ W.cell? ⟨g, 0, none⟩ = some a ∧ W.cell? ⟨g, 1, none⟩ = some b ∧ W.cell? ⟨g, 2, none⟩ = some c :=
  ⟨h, (three h).1⟩

theorem keep_bel {w W W1 : World} {g : Nat} {a b c : Value} {A : Option Addr} {L : List S47}
    (h : W.heap[g]? = some (.cells #[a, b, c] 23 (0, 0)) ∧ W.cell? ⟨g, 0, none⟩ = some a ∧ W.cell? ⟨g, 1, none⟩ = some b ∧ W.cell? ⟨g, 2, none⟩ = some c ∧ Aside0 (Below w.heap.size w W) ∧ Aside0 (Kd.C k47 W A L.length L)) (hb : Below W.heap.size W W1) :
    W1.heap[g]? = some (.cells #[a, b, c] 23 (0, 0)) ∧ W1.cell? ⟨g, 0, none⟩ = some a ∧ W1.cell? ⟨g, 1, none⟩ = some b ∧ W1.cell? ⟨g, 2, none⟩ = some c ∧ Aside0 (Below w.heap.size w W1) ∧ Aside0 (Kd.C k47 W1 A L.length L) :=
  have h1 := blk_below h.1 hb
  ⟨h1, (three h1).1.1, (three h1).1.2.1, (three h1).1.2.2, ⟨below_step h.2.2.2.2.1.out hb⟩, ⟨Kd.C_below h.2.2.2.2.2.out hb⟩⟩

set_option maxRecDepth 100000 in
set_option maxHeartbeats 1000000 in
theorem asks_no_yes (s h t pos n : Int) (m : ¬ MayP s h t) (c : 1 ≤ s ∧ s ≤ 65536) (w : World) :
    Calls Try.prog 6 #[.agg #[.int .i64 s, .int .i64 h, .int .i64 t], .int .i64 pos, .int .i64 n] w fun e w' => e = .returned (.bool true) ∧ Below w.heap.size w w' := by
  have A1 := Aside0.mk (may_no m)
  have A4 := Aside0.mk (at_no (pos := pos) (n := n) m 3 (by omega))
  have A5 := Aside0.mk (check_no m 3 (by omega))
  have A6 := Aside0.mk (used_no m 3 (by omega))
  have A7 := Aside0.mk (free_no m 3 (by omega))
  have A8 := Aside0.mk (holds_no (pos := pos) (n := n) m 3 (by omega))
  have A2 := Aside0.mk (new_yes c.1 c.2 3 (by omega))
  have A3 := Aside0.mk (may_yes (s := s) (h := 0) (t := 0) ⟨c.1, c.2, by omega, by omega, by omega, by omega⟩)
  clear m c
  go_enter Try.func6, Try.ntmps6
  go_wp2_with (fail)
  refine (lighterref09_May.calls s h t false _ A1.out).mono ?_
  rintro e w1 ⟨rfl, hd1⟩
  have B0 := Aside0.mk (blk_below (blk_new w _) hd1.below)
  have HB := Aside0.mk (below_step (below_alloc (Below.refl w.heap.size w) _) hd1.below)
  clear hd1
  obtain ⟨⟨c0, c1, c2⟩, f0, f1, f2⟩ := three B0.out
  have z1 := blk_lt B0.out
  go_wp2_with (fail)
  refine (ring_New.calls 3 s _ _ _ _ _ A2.out).mono ?_
  rintro e w2 ⟨rfl, hb2⟩
  have B0 := Aside0.mk (blk_below B0.out hb2)
  have HB := Aside0.mk (below_step HB.out hb2)
  clear hb2 c0 c1 c2 f0 f1 f2 z1
  obtain ⟨⟨c0, c1, c2⟩, f0, f1, f2⟩ := three B0.out
  have z1 := blk_lt B0.out
  go_wp2_with (fail)
  refine (lighterref09_May.calls s 0 0 true _ A3.out).mono ?_
  rintro e w3 ⟨rfl, hd3⟩
  have B0 := Aside0.mk (blk_below (blk_alloc B0.out _) hd3.below)
  have B1 := Aside0.mk (blk_below (blk_new w2 _) hd3.below)
  have HB := Aside0.mk (below_step (below_alloc HB.out _) hd3.below)
  clear hd3 c0 c1 c2 f0 f1 f2 z1
  obtain ⟨⟨c0, c1, c2⟩, f0, f1, f2⟩ := three B0.out
  obtain ⟨⟨c10, c11, c12⟩, f10, f11, f12⟩ := three B1.out
  have z1 := blk_lt B0.out
  have z2 := blk_lt B1.out
  go_wp2_with (fail)
  refine (ring_Ring_At.calls 3 s h t pos n _ _ _ A4.out).mono ?_
  rintro e w4 ⟨v4, rfl, ho4, hb4⟩
  obtain ⟨S4, k4, rfl, hk4, hr4⟩ := Kd.R_reads ho4
  have R4 := Aside0.mk hr4
  have Z4 := Aside0.mk hk4
  have B0 := Aside0.mk (blk_below B0.out hb4)
  have HB := Aside0.mk (below_step HB.out hb4)
  clear ho4 hr4 hk4 hb4 c0 c1 c2 f0 f1 f2 c10 c11 c12 f10 f11 f12 z1 z2 B1
  obtain ⟨⟨c0, c1, c2⟩, f0, f1, f2⟩ := three B0.out
  have z1 := blk_lt B0.out
  go_wp2_with (fail)
  refine (ring_Ring_Check.calls 3 s h t _ _ A5.out).mono ?_
  rintro e w5 ⟨rfl, hb5⟩
  have B0 := Aside0.mk (blk_below B0.out hb5)
  have R4 := Aside0.mk (Kd.C_below R4.out hb5)
  have HB := Aside0.mk (below_step HB.out hb5)
  clear hb5 c0 c1 c2 f0 f1 f2 z1
  obtain ⟨⟨c0, c1, c2⟩, f0, f1, f2⟩ := three B0.out
  have z1 := blk_lt B0.out
  go_wp2_with (fail)
  refine (ring_Ring_Used.calls 3 s h t _ _ A6.out).mono ?_
  rintro e w6 ⟨rfl, hb6⟩
  have B0 := Aside0.mk (blk_below B0.out hb6)
  have R4 := Aside0.mk (Kd.C_below R4.out hb6)
  have HB := Aside0.mk (below_step HB.out hb6)
  clear hb6 c0 c1 c2 f0 f1 f2 z1
  obtain ⟨⟨c0, c1, c2⟩, f0, f1, f2⟩ := three B0.out
  have z1 := blk_lt B0.out
  go_wp2_with (fail)
  refine (ring_Ring_Free.calls 3 s h t _ _ A7.out).mono ?_
  rintro e w7 ⟨rfl, hb7⟩
  have B0 := Aside0.mk (blk_below B0.out hb7)
  have R4 := Aside0.mk (Kd.C_below R4.out hb7)
  have HB := Aside0.mk (below_step HB.out hb7)
  clear hb7 c0 c1 c2 f0 f1 f2 z1
  obtain ⟨⟨c0, c1, c2⟩, f0, f1, f2⟩ := three B0.out
  have z1 := blk_lt B0.out
  go_wp2_with (fail)
  refine (ring_Ring_Holds.calls 3 s h t pos n _ _ A8.out).mono ?_
  rintro e w8 ⟨rfl, hb8⟩
  have B0 := Aside0.mk (blk_below B0.out hb8)
  have R4 := Aside0.mk (Kd.C_below R4.out hb8)
  have HB := Aside0.mk (below_step HB.out hb8)
  clear hb8 c0 c1 c2 f0 f1 f2 z1
  obtain ⟨⟨c0, c1, c2⟩, f0, f1, f2⟩ := three B0.out
  have z1 := blk_lt B0.out
  go_wp2_with (fail)
  refine (lighterlaw09_awake.calls 10 true _ awake10).mono ?_
  rintro e w9 ⟨rfl, hb9⟩
  go_wp2_with (fail)
  go_ret
  exact ⟨rfl, below_step HB.out hb9⟩

set_option maxRecDepth 100000 in
set_option maxHeartbeats 1000000 in
theorem asks_no_no (s h t pos n : Int) (m : ¬ MayP s h t) (c : ¬ (1 ≤ s ∧ s ≤ 65536)) (w : World) :
    Calls Try.prog 6 #[.agg #[.int .i64 s, .int .i64 h, .int .i64 t], .int .i64 pos, .int .i64 n] w fun e w' => e = .returned (.bool true) ∧ Below w.heap.size w w' := by
  have A1 := Aside0.mk (may_no m)
  have A4 := Aside0.mk (at_no (pos := pos) (n := n) m 3 (by omega))
  have A5 := Aside0.mk (check_no m 3 (by omega))
  have A6 := Aside0.mk (used_no m 3 (by omega))
  have A7 := Aside0.mk (free_no m 3 (by omega))
  have A8 := Aside0.mk (holds_no (pos := pos) (n := n) m 3 (by omega))
  have A2 := Aside0.mk (new_no c 3 (by omega))
  have A3 := Aside0.mk (may_no (s := s) (h := 0) (t := 0) (fun m => c ⟨m.1, m.2.1⟩))
  clear m c
  go_enter Try.func6, Try.ntmps6
  go_wp2_with (fail)
  refine (lighterref09_May.calls s h t false _ A1.out).mono ?_
  rintro e w1 ⟨rfl, hd1⟩
  have B0 := Aside0.mk (blk_below (blk_new w _) hd1.below)
  have HB := Aside0.mk (below_step (below_alloc (Below.refl w.heap.size w) _) hd1.below)
  clear hd1
  obtain ⟨⟨c0, c1, c2⟩, f0, f1, f2⟩ := three B0.out
  have z1 := blk_lt B0.out
  go_wp2_with (fail)
  refine (ring_New.calls 3 s _ _ _ _ _ A2.out).mono ?_
  rintro e w2 ⟨rfl, hb2⟩
  have B0 := Aside0.mk (blk_below B0.out hb2)
  have HB := Aside0.mk (below_step HB.out hb2)
  clear hb2 c0 c1 c2 f0 f1 f2 z1
  obtain ⟨⟨c0, c1, c2⟩, f0, f1, f2⟩ := three B0.out
  have z1 := blk_lt B0.out
  go_wp2_with (fail)
  refine (lighterref09_May.calls s 0 0 false _ A3.out).mono ?_
  rintro e w3 ⟨rfl, hd3⟩
  have B0 := Aside0.mk (blk_below (blk_alloc B0.out _) hd3.below)
  have B1 := Aside0.mk (blk_below (blk_new w2 _) hd3.below)
  have HB := Aside0.mk (below_step (below_alloc HB.out _) hd3.below)
  clear hd3 c0 c1 c2 f0 f1 f2 z1
  obtain ⟨⟨c0, c1, c2⟩, f0, f1, f2⟩ := three B0.out
  obtain ⟨⟨c10, c11, c12⟩, f10, f11, f12⟩ := three B1.out
  have z1 := blk_lt B0.out
  have z2 := blk_lt B1.out
  go_wp2_with (fail)
  refine (ring_Ring_At.calls 3 s h t pos n _ _ _ A4.out).mono ?_
  rintro e w4 ⟨v4, rfl, ho4, hb4⟩
  obtain ⟨S4, k4, rfl, hk4, hr4⟩ := Kd.R_reads ho4
  have R4 := Aside0.mk hr4
  have Z4 := Aside0.mk hk4
  have B0 := Aside0.mk (blk_below B0.out hb4)
  have HB := Aside0.mk (below_step HB.out hb4)
  clear ho4 hr4 hk4 hb4 c0 c1 c2 f0 f1 f2 c10 c11 c12 f10 f11 f12 z1 z2 B1
  obtain ⟨⟨c0, c1, c2⟩, f0, f1, f2⟩ := three B0.out
  have z1 := blk_lt B0.out
  go_wp2_with (fail)
  refine (ring_Ring_Check.calls 3 s h t _ _ A5.out).mono ?_
  rintro e w5 ⟨rfl, hb5⟩
  have B0 := Aside0.mk (blk_below B0.out hb5)
  have R4 := Aside0.mk (Kd.C_below R4.out hb5)
  have HB := Aside0.mk (below_step HB.out hb5)
  clear hb5 c0 c1 c2 f0 f1 f2 z1
  obtain ⟨⟨c0, c1, c2⟩, f0, f1, f2⟩ := three B0.out
  have z1 := blk_lt B0.out
  go_wp2_with (fail)
  refine (ring_Ring_Used.calls 3 s h t _ _ A6.out).mono ?_
  rintro e w6 ⟨rfl, hb6⟩
  have B0 := Aside0.mk (blk_below B0.out hb6)
  have R4 := Aside0.mk (Kd.C_below R4.out hb6)
  have HB := Aside0.mk (below_step HB.out hb6)
  clear hb6 c0 c1 c2 f0 f1 f2 z1
  obtain ⟨⟨c0, c1, c2⟩, f0, f1, f2⟩ := three B0.out
  have z1 := blk_lt B0.out
  go_wp2_with (fail)
  refine (ring_Ring_Free.calls 3 s h t _ _ A7.out).mono ?_
  rintro e w7 ⟨rfl, hb7⟩
  have B0 := Aside0.mk (blk_below B0.out hb7)
  have R4 := Aside0.mk (Kd.C_below R4.out hb7)
  have HB := Aside0.mk (below_step HB.out hb7)
  clear hb7 c0 c1 c2 f0 f1 f2 z1
  obtain ⟨⟨c0, c1, c2⟩, f0, f1, f2⟩ := three B0.out
  have z1 := blk_lt B0.out
  go_wp2_with (fail)
  refine (ring_Ring_Holds.calls 3 s h t pos n _ _ A8.out).mono ?_
  rintro e w8 ⟨rfl, hb8⟩
  have B0 := Aside0.mk (blk_below B0.out hb8)
  have R4 := Aside0.mk (Kd.C_below R4.out hb8)
  have HB := Aside0.mk (below_step HB.out hb8)
  clear hb8 c0 c1 c2 f0 f1 f2 z1
  obtain ⟨⟨c0, c1, c2⟩, f0, f1, f2⟩ := three B0.out
  have z1 := blk_lt B0.out
  go_wp2_with (fail)
  refine (lighterlaw09_awake.calls 10 true _ awake10).mono ?_
  rintro e w9 ⟨rfl, hb9⟩
  go_wp2_with (fail)
  go_ret
  exact ⟨rfl, below_step HB.out hb9⟩

set_option maxRecDepth 100000 in
set_option maxHeartbeats 1000000 in
theorem asks_great (s h t pos n : Int) (m : MayP s h t) (hs : 300 < s) (L : List S47) (e4 : Int) (a4 : ring_Ring_At.f 3 s h t pos n = some (L, e4)) (w : World) :
    Calls Try.prog 6 #[.agg #[.int .i64 s, .int .i64 h, .int .i64 t], .int .i64 pos, .int .i64 n] w fun e w' => e = .returned (.bool true) ∧ Below w.heap.size w w' := by
  have A4 := Aside0.mk a4
  clear a4
  have A1 := Aside0.mk (may_yes m)
  have A5 := Aside0.mk (check_yes m 3 (by omega))
  have A6 := Aside0.mk (used_yes m 3 (by omega))
  have A7 := Aside0.mk (show ring_Ring_Free.f 3 s h t = some (s - h + t) by rw [free_yes m 3 (by omega)]; congr 1; omega)
  have m' := m
  obtain ⟨m1, m2, m3, m4, m5, m6⟩ := m'
  have c : 1 ≤ s ∧ s ≤ 65536 := ⟨m1, m2⟩
  have A2 := Aside0.mk (new_yes c.1 c.2 3 (by omega))
  have A3 := Aside0.mk (may_yes (s := s) (h := 0) (t := 0) ⟨c.1, c.2, by omega, by omega, by omega, by omega⟩)

  go_enter Try.func6, Try.ntmps6
  go_wp2_with (fail)
  refine (lighterref09_May.calls s h t true _ A1.out).mono ?_
  rintro e w1 ⟨rfl, hd1⟩
  have B0 := Aside0.mk (blk_below (blk_new w _) hd1.below)
  have HB := Aside0.mk (below_step (below_alloc (Below.refl w.heap.size w) _) hd1.below)
  clear hd1
  obtain ⟨⟨c0, c1, c2⟩, f0, f1, f2⟩ := three B0.out
  have z1 := blk_lt B0.out
  go_wp2_with (fail)
  refine (ring_New.calls 3 s _ _ _ _ _ A2.out).mono ?_
  rintro e w2 ⟨rfl, hb2⟩
  have B0 := Aside0.mk (blk_below B0.out hb2)
  have HB := Aside0.mk (below_step HB.out hb2)
  clear hb2 c0 c1 c2 f0 f1 f2 z1
  obtain ⟨⟨c0, c1, c2⟩, f0, f1, f2⟩ := three B0.out
  have z1 := blk_lt B0.out
  go_wp2_with (fail)
  refine (lighterref09_May.calls s 0 0 true _ A3.out).mono ?_
  rintro e w3 ⟨rfl, hd3⟩
  have B0 := Aside0.mk (blk_below (blk_alloc B0.out _) hd3.below)
  have B1 := Aside0.mk (blk_below (blk_new w2 _) hd3.below)
  have HB := Aside0.mk (below_step (below_alloc HB.out _) hd3.below)
  clear hd3 c0 c1 c2 f0 f1 f2 z1
  obtain ⟨⟨c0, c1, c2⟩, f0, f1, f2⟩ := three B0.out
  obtain ⟨⟨c10, c11, c12⟩, f10, f11, f12⟩ := three B1.out
  have z1 := blk_lt B0.out
  have z2 := blk_lt B1.out
  go_wp2_with (fail)
  refine (ring_Ring_At.calls 3 s h t pos n _ _ _ A4.out).mono ?_
  rintro e w4 ⟨v4, rfl, ho4, hb4⟩
  obtain ⟨S4, k4, rfl, hk4, hr4⟩ := Kd.R_reads ho4
  have R4 := Aside0.mk hr4
  have Z4 := Aside0.mk hk4
  have B0 := Aside0.mk (blk_below B0.out hb4)
  have HB := Aside0.mk (below_step HB.out hb4)
  clear ho4 hr4 hk4 hb4 c0 c1 c2 f0 f1 f2 c10 c11 c12 f10 f11 f12 z1 z2 B1
  obtain ⟨⟨c0, c1, c2⟩, f0, f1, f2⟩ := three B0.out
  have z1 := blk_lt B0.out
  go_wp2_with (fail)
  have hS : w4.heap[w.heap.size]? = some (.cells #[.int .i64 s, .int .i64 h, .int .i64 t] 23 (0, 0)) ∧ w4.cell? ⟨w.heap.size, 0, none⟩ = some (.int .i64 s) ∧ w4.cell? ⟨w.heap.size, 1, none⟩ = some (.int .i64 h) ∧ w4.cell? ⟨w.heap.size, 2, none⟩ = some (.int .i64 t) ∧ Aside0 (Below w.heap.size w w4) ∧ Aside0 (Kd.C k47 w4 S4 (L : List S47).length (L : List S47)) := ⟨B0.out, c0, c1, c2, HB, R4⟩
  clear c0 c1 c2 f0 f1 f2 z1 B0 HB R4
  have q1 : IntKind.i64.wrap (h - t) = h - t := IntWalk.i64_in _ (by omega)
  have q2 : IntKind.i64.wrap (s - h) = s - h := IntWalk.i64_in _ (by omega)
  have q3 : IntKind.i64.wrap (s - h + t) = s - h + t := IntWalk.i64_in _ (by omega)
  go_region_held3 (fun W' => W'.heap[w.heap.size]? = some (.cells #[.int .i64 s, .int .i64 h, .int .i64 t] 23 (0, 0)) ∧ W'.cell? ⟨w.heap.size, 0, none⟩ = some (.int .i64 s) ∧ W'.cell? ⟨w.heap.size, 1, none⟩ = some (.int .i64 h) ∧ W'.cell? ⟨w.heap.size, 2, none⟩ = some (.int .i64 t) ∧ Aside0 (Below w.heap.size w W') ∧ Aside0 (Kd.C k47 W' S4 (L : List S47).length (L : List S47))) (first | assumption | exact keep_bel (by assumption) (by assumption) | exact keep_bel (by assumption) (below_drew (Below.refl _ _)) | exact keep_bel (by assumption) (pw_below_drewN (Below.refl _ _) _))
    (first | (go_at_call 19; refine (ring_Ring_Check.calls 3 s h t _ _ A5.out).mono ?_; rintro e w5 ⟨rfl, hb5⟩) | (go_at_call 15; refine (ring_Ring_Used.calls 3 s h t _ _ A6.out).mono ?_; rintro e w6 ⟨rfl, hb6⟩) | (go_at_call 20; refine (ring_Ring_Free.calls 3 s h t _ _ A7.out).mono ?_; rintro e w7 ⟨rfl, hb7⟩))
  rename_i hH
  obtain ⟨B0, c0, c1, c2, HB, R4⟩ := hH
  clear hS q1 q2 q3 hb5 hb6 hb7
  have B0 := Aside0.mk B0
  have z1 := blk_lt B0.out
  obtain ⟨-, f0, f1, f2⟩ := three B0.out
  go_wp2_with (fail)
  refine (lighterlaw09_awake.calls 10 true _ awake10).mono ?_
  rintro e w9 ⟨rfl, hb9⟩
  go_wp2_with (fail)
  go_ret
  exact ⟨rfl, below_step HB.out hb9⟩

end Go.Proofs.Ytkbohbelmgmlnaa.PRingAsks
