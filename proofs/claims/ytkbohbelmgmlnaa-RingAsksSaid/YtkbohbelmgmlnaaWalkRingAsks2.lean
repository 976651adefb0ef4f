/- The walk of RingAsks, some of its ways (printed by a program of this session, wip/ring/asks.py). Conditions: what each theorem says. -/
import Derived.Test.YtkbohbelmgmlnaaWalkRingAsks0
namespace Go.Proofs.Ytkbohbelmgmlnaa.PRingAsks
open Go.RowKit Go.Proofs.YtkbohbelmgmlnaaW.PrintWords Go.Proofs.YtkbohbelmgmlnaaW.PrintLast Go.Proofs.YtkbohbelmgmlnaaW.PrintMore
attribute [local go_sem high] eqA23
set_option linter.unusedVariables false
set_option linter.unusedSimpArgs false

set_option maxRecDepth 100000 in
set_option maxHeartbeats 1000000 in
theorem asks_b2 (s h t pos n : Int) (m : MayP s h t) (hs : s ≤ 300) (r1 : 0 ≤ n) (r2 : pos < t) (p1 : 0 ≤ pos) (p2 : s < n) (w : World) :
    Calls Try.prog 6 #[.agg #[.int .i64 s, .int .i64 h, .int .i64 t], .int .i64 pos, .int .i64 n] w fun e w' => e = .returned (.bool true) ∧ Below w.heap.size w w' := by
  have A1 := Aside0.mk (may_yes m)
  have A5 := Aside0.mk (check_yes m 3 (by omega))
  have A6 := Aside0.mk (used_yes m 3 (by omega))
  have A7 := Aside0.mk (show ring_Ring_Free.f 3 s h t = some (s - h + t) by rw [free_yes m 3 (by omega)]; congr 1; omega)
  have m' := m
  obtain ⟨m1, m2, m3, m4, m5, m6⟩ := m'
  have c : 1 ≤ s ∧ s ≤ 65536 := ⟨m1, m2⟩
  have A4 := Aside0.mk (at_arg (pos := pos) (n := n) m (by omega) 3 (by omega))
  have A8 := Aside0.mk (show ring_Ring_Holds.f 3 s h t pos n = some false by rw [holds_yes m 3 (by omega)]; congr 1; simp; omega)
  have A2 := Aside0.mk (new_yes c.1 c.2 3 (by omega))
  have A3 := Aside0.mk (may_yes (s := s) (h := 0) (t := 0) ⟨c.1, c.2, by omega, by omega, by omega, by omega⟩)

  go_enter Try.func6, Try.ntmps6
  go_wp2_with (fail)
  refine (lighterref09_May.calls s h t true _ A1.out).mono ?_
  rintro e w1 ⟨rfl, hd1⟩
  have B0 := Aside0.mk (blk_below (blk_new w _) hd1.below)
  have HB := Aside0.mk (below_step (below_alloc (Below.refl w.heap.size w) _) hd1.below)
  clear hd1
  obtain ⟨⟨c0, c1, c2⟩, f0, f1, f2⟩ := three B0.out
  have z1 := blk_lt B0.out
  go_wp2_with (fail)
  refine (ring_New.calls 3 s _ _ _ _ _ A2.out).mono ?_
  rintro e w2 ⟨rfl, hb2⟩
  have B0 := Aside0.mk (blk_below B0.out hb2)
  have HB := Aside0.mk (below_step HB.out hb2)
  clear hb2 c0 c1 c2 f0 f1 f2 z1
  obtain ⟨⟨c0, c1, c2⟩, f0, f1, f2⟩ := three B0.out
  have z1 := blk_lt B0.out
  go_wp2_with (fail)
  refine (lighterref09_May.calls s 0 0 true _ A3.out).mono ?_
  rintro e w3 ⟨rfl, hd3⟩
  have B0 := Aside0.mk (blk_below (blk_alloc B0.out _) hd3.below)
  have B1 := Aside0.mk (blk_below (blk_new w2 _) hd3.below)
  have HB := Aside0.mk (below_step (below_alloc HB.out _) hd3.below)
  clear hd3 c0 c1 c2 f0 f1 f2 z1
  obtain ⟨⟨c0, c1, c2⟩, f0, f1, f2⟩ := three B0.out
  obtain ⟨⟨c10, c11, c12⟩, f10, f11, f12⟩ := three B1.out
  have z1 := blk_lt B0.out
  have z2 := blk_lt B1.out
  go_wp2_with (fail)
  refine (ring_Ring_At.calls 3 s h t pos n _ _ _ A4.out).mono ?_
  rintro e w4 ⟨v4, rfl, ho4, hb4⟩
  obtain ⟨S4, k4, rfl, hk4, hr4⟩ := Kd.R_reads ho4
  have R4 := Aside0.mk hr4
  have Z4 := Aside0.mk hk4
  have B0 := Aside0.mk (blk_below B0.out hb4)
  have HB := Aside0.mk (below_step HB.out hb4)
  clear ho4 hr4 hk4 hb4 c0 c1 c2 f0 f1 f2 c10 c11 c12 f10 f11 f12 z1 z2 B1
  obtain ⟨⟨c0, c1, c2⟩, f0, f1, f2⟩ := three B0.out
  have z1 := blk_lt B0.out
  go_wp2_with (fail)
  have hS : w4.heap[w.heap.size]? = some (.cells #[.int .i64 s, .int .i64 h, .int .i64 t] 23 (0, 0)) ∧ w4.cell? ⟨w.heap.size, 0, none⟩ = some (.int .i64 s) ∧ w4.cell? ⟨w.heap.size, 1, none⟩ = some (.int .i64 h) ∧ w4.cell? ⟨w.heap.size, 2, none⟩ = some (.int .i64 t) ∧ Aside0 (Below w.heap.size w w4) ∧ Aside0 (Kd.C k47 w4 S4 ([] : List S47).length ([] : List S47)) := ⟨B0.out, c0, c1, c2, HB, R4⟩
  clear c0 c1 c2 f0 f1 f2 z1 B0 HB R4
  have q1 : IntKind.i64.wrap (h - t) = h - t := IntWalk.i64_in _ (by omega)
  have q2 : IntKind.i64.wrap (s - h) = s - h := IntWalk.i64_in _ (by omega)
  have q3 : IntKind.i64.wrap (s - h + t) = s - h + t := IntWalk.i64_in _ (by omega)
  go_region_held3 (fun W' => W'.heap[w.heap.size]? = some (.cells #[.int .i64 s, .int .i64 h, .int .i64 t] 23 (0, 0)) ∧ W'.cell? ⟨w.heap.size, 0, none⟩ = some (.int .i64 s) ∧ W'.cell? ⟨w.heap.size, 1, none⟩ = some (.int .i64 h) ∧ W'.cell? ⟨w.heap.size, 2, none⟩ = some (.int .i64 t) ∧ Aside0 (Below w.heap.size w W') ∧ Aside0 (Kd.C k47 W' S4 ([] : List S47).length ([] : List S47))) (first | assumption | exact keep_bel (by assumption) (by assumption) | exact keep_bel (by assumption) (below_drew (Below.refl _ _)) | exact keep_bel (by assumption) (pw_below_drewN (Below.refl _ _) _))
    (first | (go_at_call 19; refine (ring_Ring_Check.calls 3 s h t _ _ A5.out).mono ?_; rintro e w5 ⟨rfl, hb5⟩) | (go_at_call 15; refine (ring_Ring_Used.calls 3 s h t _ _ A6.out).mono ?_; rintro e w6 ⟨rfl, hb6⟩) | (go_at_call 20; refine (ring_Ring_Free.calls 3 s h t _ _ A7.out).mono ?_; rintro e w7 ⟨rfl, hb7⟩))
  rename_i hH
  obtain ⟨B0, c0, c1, c2, HB, R4⟩ := hH
  clear hS q1 q2 q3 hb5 hb6 hb7
  have B0 := Aside0.mk B0
  have z1 := blk_lt B0.out
  obtain ⟨-, f0, f1, f2⟩ := three B0.out
  go_wp2_with (fail)
  refine (ring_Ring_Holds.calls 3 s h t pos n _ _ A8.out).mono ?_
  rintro e w8 ⟨rfl, hb8⟩
  have B0 := Aside0.mk (blk_below B0.out hb8)
  have R4 := Aside0.mk (Kd.C_below R4.out hb8)
  have HB := Aside0.mk (below_step HB.out hb8)
  clear hb8 c0 c1 c2 f0 f1 f2 z1
  obtain ⟨⟨c0, c1, c2⟩, f0, f1, f2⟩ := three B0.out
  have z1 := blk_lt B0.out
  go_wp2_with (fail)
  refine (lighterlaw09_awake.calls 10 true _ awake10).mono ?_
  rintro e w9 ⟨rfl, hb9⟩
  go_wp2_with (fail)
  go_ret
  exact ⟨rfl, below_step HB.out hb9⟩

set_option maxRecDepth 100000 in
set_option maxHeartbeats 1000000 in
theorem asks_b3 (s h t pos n : Int) (m : MayP s h t) (hs : s ≤ 300) (r1 : 0 ≤ n) (r2 : pos < t) (p1 : 0 ≤ pos) (p2 : n ≤ s) (w : World) :
    Calls Try.prog 6 #[.agg #[.int .i64 s, .int .i64 h, .int .i64 t], .int .i64 pos, .int .i64 n] w fun e w' => e = .returned (.bool true) ∧ Below w.heap.size w w' := by
  have A1 := Aside0.mk (may_yes m)
  have A5 := Aside0.mk (check_yes m 3 (by omega))
  have A6 := Aside0.mk (used_yes m 3 (by omega))
  have A7 := Aside0.mk (show ring_Ring_Free.f 3 s h t = some (s - h + t) by rw [free_yes m 3 (by omega)]; congr 1; omega)
  have m' := m
  obtain ⟨m1, m2, m3, m4, m5, m6⟩ := m'
  have c : 1 ≤ s ∧ s ≤ 65536 := ⟨m1, m2⟩
  have A4 := Aside0.mk (at_ok (pos := pos) (n := n) m (by omega) (by have := m.2.2.2.2.1; omega) (by omega) (by omega) 3 (by omega))
  have A8 := Aside0.mk (show ring_Ring_Holds.f 3 s h t pos n = some false by rw [holds_yes m 3 (by omega)]; congr 1; simp; omega)
  have E1 := Aside0.mk (refat_is m.1 m.2.1 (show 0 ≤ pos by omega) (by have := m.2.2.2.2.1; omega) (show 0 ≤ n by omega) (by omega) 301 (by omega))
  have Y1 := Aside0.mk (same_self (spansL s pos n) (by have := spansL_length s pos n; omega) 3 (by have := spansL_length s pos n; omega))
  have A2 := Aside0.mk (new_yes c.1 c.2 3 (by omega))
  have A3 := Aside0.mk (may_yes (s := s) (h := 0) (t := 0) ⟨c.1, c.2, by omega, by omega, by omega, by omega⟩)

  go_enter Try.func6, Try.ntmps6
  go_wp2_with (fail)
  refine (lighterref09_May.calls s h t true _ A1.out).mono ?_
  rintro e w1 ⟨rfl, hd1⟩
  have B0 := Aside0.mk (blk_below (blk_new w _) hd1.below)
  have HB := Aside0.mk (below_step (below_alloc (Below.refl w.heap.size w) _) hd1.below)
  clear hd1
  obtain ⟨⟨c0, c1, c2⟩, f0, f1, f2⟩ := three B0.out
  have z1 := blk_lt B0.out
  go_wp2_with (fail)
  refine (ring_New.calls 3 s _ _ _ _ _ A2.out).mono ?_
  rintro e w2 ⟨rfl, hb2⟩
  have B0 := Aside0.mk (blk_below B0.out hb2)
  have HB := Aside0.mk (below_step HB.out hb2)
  clear hb2 c0 c1 c2 f0 f1 f2 z1
  obtain ⟨⟨c0, c1, c2⟩, f0, f1, f2⟩ := three B0.out
  have z1 := blk_lt B0.out
  go_wp2_with (fail)
  refine (lighterref09_May.calls s 0 0 true _ A3.out).mono ?_
  rintro e w3 ⟨rfl, hd3⟩
  have B0 := Aside0.mk (blk_below (blk_alloc B0.out _) hd3.below)
  have B1 := Aside0.mk (blk_below (blk_new w2 _) hd3.below)
  have HB := Aside0.mk (below_step (below_alloc HB.out _) hd3.below)
  clear hd3 c0 c1 c2 f0 f1 f2 z1
  obtain ⟨⟨c0, c1, c2⟩, f0, f1, f2⟩ := three B0.out
  obtain ⟨⟨c10, c11, c12⟩, f10, f11, f12⟩ := three B1.out
  have z1 := blk_lt B0.out
  have z2 := blk_lt B1.out
  go_wp2_with (fail)
  refine (ring_Ring_At.calls 3 s h t pos n _ _ _ A4.out).mono ?_
  rintro e w4 ⟨v4, rfl, ho4, hb4⟩
  obtain ⟨S4, k4, rfl, hk4, hr4⟩ := Kd.R_reads ho4
  have R4 := Aside0.mk hr4
  have Z4 := Aside0.mk hk4
  have B0 := Aside0.mk (blk_below B0.out hb4)
  have HB := Aside0.mk (below_step HB.out hb4)
  clear ho4 hr4 hk4 hb4 c0 c1 c2 f0 f1 f2 c10 c11 c12 f10 f11 f12 z1 z2 B1
  obtain ⟨⟨c0, c1, c2⟩, f0, f1, f2⟩ := three B0.out
  have z1 := blk_lt B0.out
  go_wp2_with (fail)
  have hS : w4.heap[w.heap.size]? = some (.cells #[.int .i64 s, .int .i64 h, .int .i64 t] 23 (0, 0)) ∧ w4.cell? ⟨w.heap.size, 0, none⟩ = some (.int .i64 s) ∧ w4.cell? ⟨w.heap.size, 1, none⟩ = some (.int .i64 h) ∧ w4.cell? ⟨w.heap.size, 2, none⟩ = some (.int .i64 t) ∧ Aside0 (Below w.heap.size w w4) ∧ Aside0 (Kd.C k47 w4 S4 (spansL s pos n : List S47).length (spansL s pos n : List S47)) := ⟨B0.out, c0, c1, c2, HB, R4⟩
  clear c0 c1 c2 f0 f1 f2 z1 B0 HB R4
  have q1 : IntKind.i64.wrap (h - t) = h - t := IntWalk.i64_in _ (by omega)
  have q2 : IntKind.i64.wrap (s - h) = s - h := IntWalk.i64_in _ (by omega)
  have q3 : IntKind.i64.wrap (s - h + t) = s - h + t := IntWalk.i64_in _ (by omega)
  go_region_held3 (fun W' => W'.heap[w.heap.size]? = some (.cells #[.int .i64 s, .int .i64 h, .int .i64 t] 23 (0, 0)) ∧ W'.cell? ⟨w.heap.size, 0, none⟩ = some (.int .i64 s) ∧ W'.cell? ⟨w.heap.size, 1, none⟩ = some (.int .i64 h) ∧ W'.cell? ⟨w.heap.size, 2, none⟩ = some (.int .i64 t) ∧ Aside0 (Below w.heap.size w W') ∧ Aside0 (Kd.C k47 W' S4 (spansL s pos n : List S47).length (spansL s pos n : List S47))) (first | assumption | exact keep_bel (by assumption) (by assumption) | exact keep_bel (by assumption) (below_drew (Below.refl _ _)) | exact keep_bel (by assumption) (pw_below_drewN (Below.refl _ _) _))
    (first | (go_at_call 19; refine (ring_Ring_Check.calls 3 s h t _ _ A5.out).mono ?_; rintro e w5 ⟨rfl, hb5⟩) | (go_at_call 15; refine (ring_Ring_Used.calls 3 s h t _ _ A6.out).mono ?_; rintro e w6 ⟨rfl, hb6⟩) | (go_at_call 20; refine (ring_Ring_Free.calls 3 s h t _ _ A7.out).mono ?_; rintro e w7 ⟨rfl, hb7⟩))
  rename_i hH
  obtain ⟨B0, c0, c1, c2, HB, R4⟩ := hH
  clear hS q1 q2 q3 hb5 hb6 hb7
  have B0 := Aside0.mk B0
  have z1 := blk_lt B0.out
  obtain ⟨-, f0, f1, f2⟩ := three B0.out
  go_wp2_with (fail)
  refine (ring_Ring_Holds.calls 3 s h t pos n _ _ A8.out).mono ?_
  rintro e w8 ⟨rfl, hb8⟩
  have B0 := Aside0.mk (blk_below B0.out hb8)
  have R4 := Aside0.mk (Kd.C_below R4.out hb8)
  have HB := Aside0.mk (below_step HB.out hb8)
  clear hb8 c0 c1 c2 f0 f1 f2 z1
  obtain ⟨⟨c0, c1, c2⟩, f0, f1, f2⟩ := three B0.out
  have z1 := blk_lt B0.out
  go_wp2_with (fail)
  refine (lighterref09_At.calls 301 s pos n _ _ E1.out).mono ?_
  rintro e w5 ⟨v5, rfl, ho5, hb5⟩
  obtain ⟨S5, k5, rfl, hk5, hr5⟩ := Kd.R_reads ho5
  have R5 := Aside0.mk hr5
  have Z5 := Aside0.mk hk5
  have R4 := Aside0.mk (Kd.C_below R4.out hb5)
  have HB := Aside0.mk (below_step HB.out hb5)
  clear ho5 hr5 hk5 hb5
  go_wp2_with (fail)
  refine (lighterref01_Same.calls 3 _ _ _ _ _ _ true _ R4.out Z4.out R5.out Z5.out Y1.out).mono ?_
  rintro e w6 ⟨rfl, hd6⟩
  have HB := Aside0.mk (below_step HB.out hd6.below)
  obtain ⟨n6, rfl⟩ := hd6
  go_wp2_with (fail)
  refine (lighterlaw09_awake.calls 10 true _ awake10).mono ?_
  rintro e w9 ⟨rfl, hb9⟩
  go_wp2_with (fail)
  go_ret
  exact ⟨rfl, below_step HB.out hb9⟩

set_option maxRecDepth 100000 in
set_option maxHeartbeats 1000000 in
theorem asks_c1 (s h t pos n : Int) (m : MayP s h t) (hs : s ≤ 300) (r1 : 0 ≤ n) (r2 : t ≤ pos) (r3 : h < pos) (p1 : 0 ≤ pos) (p2 : s < n) (w : World) :
    Calls Try.prog 6 #[.agg #[.int .i64 s, .int .i64 h, .int .i64 t], .int .i64 pos, .int .i64 n] w fun e w' => e = .returned (.bool true) ∧ Below w.heap.size w w' := by
  have A1 := Aside0.mk (may_yes m)
  have A5 := Aside0.mk (check_yes m 3 (by omega))
  have A6 := Aside0.mk (used_yes m 3 (by omega))
  have A7 := Aside0.mk (show ring_Ring_Free.f 3 s h t = some (s - h + t) by rw [free_yes m 3 (by omega)]; congr 1; omega)
  have m' := m
  obtain ⟨m1, m2, m3, m4, m5, m6⟩ := m'
  have c : 1 ≤ s ∧ s ≤ 65536 := ⟨m1, m2⟩
  have A4 := Aside0.mk (at_arg (pos := pos) (n := n) m (by omega) 3 (by omega))
  have A8 := Aside0.mk (show ring_Ring_Holds.f 3 s h t pos n = some false by rw [holds_yes m 3 (by omega)]; congr 1; simp; omega)
  have A2 := Aside0.mk (new_yes c.1 c.2 3 (by omega))
  have A3 := Aside0.mk (may_yes (s := s) (h := 0) (t := 0) ⟨c.1, c.2, by omega, by omega, by omega, by omega⟩)

  go_enter Try.func6, Try.ntmps6
  go_wp2_with (fail)
  refine (lighterref09_May.calls s h t true _ A1.out).mono ?_
  rintro e w1 ⟨rfl, hd1⟩
  have B0 := Aside0.mk (blk_below (blk_new w _) hd1.below)
  have HB := Aside0.mk (below_step (below_alloc (Below.refl w.heap.size w) _) hd1.below)
  clear hd1
  obtain ⟨⟨c0, c1, c2⟩, f0, f1, f2⟩ := three B0.out
  have z1 := blk_lt B0.out
  go_wp2_with (fail)
  refine (ring_New.calls 3 s _ _ _ _ _ A2.out).mono ?_
  rintro e w2 ⟨rfl, hb2⟩
  have B0 := Aside0.mk (blk_below B0.out hb2)
  have HB := Aside0.mk (below_step HB.out hb2)
  clear hb2 c0 c1 c2 f0 f1 f2 z1
  obtain ⟨⟨c0, c1, c2⟩, f0, f1, f2⟩ := three B0.out
  have z1 := blk_lt B0.out
  go_wp2_with (fail)
  refine (lighterref09_May.calls s 0 0 true _ A3.out).mono ?_
  rintro e w3 ⟨rfl, hd3⟩
  have B0 := Aside0.mk (blk_below (blk_alloc B0.out _) hd3.below)
  have B1 := Aside0.mk (blk_below (blk_new w2 _) hd3.below)
  have HB := Aside0.mk (below_step (below_alloc HB.out _) hd3.below)
  clear hd3 c0 c1 c2 f0 f1 f2 z1
  obtain ⟨⟨c0, c1, c2⟩, f0, f1, f2⟩ := three B0.out
  obtain ⟨⟨c10, c11, c12⟩, f10, f11, f12⟩ := three B1.out
  have z1 := blk_lt B0.out
  have z2 := blk_lt B1.out
  go_wp2_with (fail)
  refine (ring_Ring_At.calls 3 s h t pos n _ _ _ A4.out).mono ?_
  rintro e w4 ⟨v4, rfl, ho4, hb4⟩
  obtain ⟨S4, k4, rfl, hk4, hr4⟩ := Kd.R_reads ho4
  have R4 := Aside0.mk hr4
  have Z4 := Aside0.mk hk4
  have B0 := Aside0.mk (blk_below B0.out hb4)
  have HB := Aside0.mk (below_step HB.out hb4)
  clear ho4 hr4 hk4 hb4 c0 c1 c2 f0 f1 f2 c10 c11 c12 f10 f11 f12 z1 z2 B1
  obtain ⟨⟨c0, c1, c2⟩, f0, f1, f2⟩ := three B0.out
  have z1 := blk_lt B0.out
  go_wp2_with (fail)
  have hS : w4.heap[w.heap.size]? = some (.cells #[.int .i64 s, .int .i64 h, .int .i64 t] 23 (0, 0)) ∧ w4.cell? ⟨w.heap.size, 0, none⟩ = some (.int .i64 s) ∧ w4.cell? ⟨w.heap.size, 1, none⟩ = some (.int .i64 h) ∧ w4.cell? ⟨w.heap.size, 2, none⟩ = some (.int .i64 t) ∧ Aside0 (Below w.heap.size w w4) ∧ Aside0 (Kd.C k47 w4 S4 ([] : List S47).length ([] : List S47)) := ⟨B0.out, c0, c1, c2, HB, R4⟩
  clear c0 c1 c2 f0 f1 f2 z1 B0 HB R4
  have q1 : IntKind.i64.wrap (h - t) = h - t := IntWalk.i64_in _ (by omega)
  have q2 : IntKind.i64.wrap (s - h) = s - h := IntWalk.i64_in _ (by omega)
  have q3 : IntKind.i64.wrap (s - h + t) = s - h + t := IntWalk.i64_in _ (by omega)
  go_region_held3 (fun W' => W'.heap[w.heap.size]? = some (.cells #[.int .i64 s, .int .i64 h, .int .i64 t] 23 (0, 0)) ∧ W'.cell? ⟨w.heap.size, 0, none⟩ = some (.int .i64 s) ∧ W'.cell? ⟨w.heap.size, 1, none⟩ = some (.int .i64 h) ∧ W'.cell? ⟨w.heap.size, 2, none⟩ = some (.int .i64 t) ∧ Aside0 (Below w.heap.size w W') ∧ Aside0 (Kd.C k47 W' S4 ([] : List S47).length ([] : List S47))) (first | assumption | exact keep_bel (by assumption) (by assumption) | exact keep_bel (by assumption) (below_drew (Below.refl _ _)) | exact keep_bel (by assumption) (pw_below_drewN (Below.refl _ _) _))
    (first | (go_at_call 19; refine (ring_Ring_Check.calls 3 s h t _ _ A5.out).mono ?_; rintro e w5 ⟨rfl, hb5⟩) | (go_at_call 15; refine (ring_Ring_Used.calls 3 s h t _ _ A6.out).mono ?_; rintro e w6 ⟨rfl, hb6⟩) | (go_at_call 20; refine (ring_Ring_Free.calls 3 s h t _ _ A7.out).mono ?_; rintro e w7 ⟨rfl, hb7⟩))
  rename_i hH
  obtain ⟨B0, c0, c1, c2, HB, R4⟩ := hH
  clear hS q1 q2 q3 hb5 hb6 hb7
  have B0 := Aside0.mk B0
  have z1 := blk_lt B0.out
  obtain ⟨-, f0, f1, f2⟩ := three B0.out
  go_wp2_with (fail)
  refine (ring_Ring_Holds.calls 3 s h t pos n _ _ A8.out).mono ?_
  rintro e w8 ⟨rfl, hb8⟩
  have B0 := Aside0.mk (blk_below B0.out hb8)
  have R4 := Aside0.mk (Kd.C_below R4.out hb8)
  have HB := Aside0.mk (below_step HB.out hb8)
  clear hb8 c0 c1 c2 f0 f1 f2 z1
  obtain ⟨⟨c0, c1, c2⟩, f0, f1, f2⟩ := three B0.out
  have z1 := blk_lt B0.out
  go_wp2_with (fail)
  refine (lighterlaw09_awake.calls 10 true _ awake10).mono ?_
  rintro e w9 ⟨rfl, hb9⟩
  go_wp2_with (fail)
  go_ret
  exact ⟨rfl, below_step HB.out hb9⟩

end Go.Proofs.Ytkbohbelmgmlnaa.PRingAsks
