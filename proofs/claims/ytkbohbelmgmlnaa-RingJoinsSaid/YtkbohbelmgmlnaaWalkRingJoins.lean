/- The walk of RingJoins, a theorem for each way (the text is printed by a program of this session, wip/ring/joins.py). Conditions: what each theorem says. -/
import Derived.Test.YtkbohbelmgmlnaaPureRingRound
import Derived.Test.YtkbohbelmgmlnaaPRingRoundx1
import Derived.Deep.RegionHeld3
namespace Go.Proofs.Ytkbohbelmgmlnaa.PRingRound
open Go.RowKit Go.Proofs.YtkbohbelmgmlnaaW.PrintWords Go.Proofs.YtkbohbelmgmlnaaW.PrintLast Go.Proofs.YtkbohbelmgmlnaaW.PrintMore
attribute [local go_sem high] eqA23
set_option linter.unusedVariables false
set_option linter.unusedSimpArgs false

theorem three {W : World} {g : Nat} {a b c : Value} (h : W.heap[g]? = some (.cells #[a, b, c] 23 (0, 0))) :
    (W.cell? ⟨g, 0, none⟩ = some a ∧ W.cell? ⟨g, 1, none⟩ = some b ∧ W.cell? ⟨g, 2, none⟩ = some c) ∧ W.frozen? ⟨g, 0, none⟩ = false ∧ W.frozen? ⟨g, 1, none⟩ = false ∧ W.frozen? ⟨g, 2, none⟩ = false :=
  ⟨⟨(blk_cell h 0).trans rfl, (blk_cell h 1).trans rfl, (blk_cell h 2).trans rfl⟩, blk_frozen h 0, blk_frozen h 1, blk_frozen h 2⟩

/-- What the last region holds on to: three rings in memory, three lists, and that nothing old has turned. -/
theorem keep3 {w W W1 : World} {g0 g1 g2 : Nat} {a0 b0 c0 a1 b1 c1 a2 b2 c2 : Value} {A1 A2 A3 : Option Addr} {L1 L2 L3 : List S47}
    (h : (W.cell? ⟨g0, 0, none⟩ = some a0 ∧ W.cell? ⟨g0, 1, none⟩ = some b0 ∧ W.cell? ⟨g0, 2, none⟩ = some c0) ∧ (W.cell? ⟨g1, 0, none⟩ = some a1 ∧ W.cell? ⟨g1, 1, none⟩ = some b1 ∧ W.cell? ⟨g1, 2, none⟩ = some c1) ∧ (W.cell? ⟨g2, 0, none⟩ = some a2 ∧ W.cell? ⟨g2, 1, none⟩ = some b2 ∧ W.cell? ⟨g2, 2, none⟩ = some c2) ∧
      Aside0 (W.heap[g0]? = some (.cells #[a0, b0, c0] 23 (0, 0)) ∧ W.heap[g1]? = some (.cells #[a1, b1, c1] 23 (0, 0)) ∧ W.heap[g2]? = some (.cells #[a2, b2, c2] 23 (0, 0)) ∧ Below w.heap.size w W ∧ Kd.C k47 W A1 L1.length L1 ∧ Kd.C k47 W A2 L2.length L2 ∧ Kd.C k47 W A3 L3.length L3)) (hb : Below W.heap.size W W1) :
    (W1.cell? ⟨g0, 0, none⟩ = some a0 ∧ W1.cell? ⟨g0, 1, none⟩ = some b0 ∧ W1.cell? ⟨g0, 2, none⟩ = some c0) ∧ (W1.cell? ⟨g1, 0, none⟩ = some a1 ∧ W1.cell? ⟨g1, 1, none⟩ = some b1 ∧ W1.cell? ⟨g1, 2, none⟩ = some c1) ∧ (W1.cell? ⟨g2, 0, none⟩ = some a2 ∧ W1.cell? ⟨g2, 1, none⟩ = some b2 ∧ W1.cell? ⟨g2, 2, none⟩ = some c2) ∧
      Aside0 (W1.heap[g0]? = some (.cells #[a0, b0, c0] 23 (0, 0)) ∧ W1.heap[g1]? = some (.cells #[a1, b1, c1] 23 (0, 0)) ∧ W1.heap[g2]? = some (.cells #[a2, b2, c2] 23 (0, 0)) ∧ Below w.heap.size w W1 ∧ Kd.C k47 W1 A1 L1.length L1 ∧ Kd.C k47 W1 A2 L2.length L2 ∧ Kd.C k47 W1 A3 L3.length L3) := by
  obtain ⟨-, -, -, ⟨h0, h1, h2, hB, r1, r2, r3⟩⟩ := h
  have h0 := blk_below h0 hb
  have h1 := blk_below h1 hb
  have h2 := blk_below h2 hb
  exact ⟨(three h0).1, (three h1).1, (three h2).1, ⟨h0, h1, h2, below_step hB hb, Kd.C_below r1 hb, Kd.C_below r2 hb, Kd.C_below r3 hb⟩⟩

theorem kC1 {w W : World} {g0 g1 g2 : Nat} {a0 b0 c0 a1 b1 c1 a2 b2 c2 : Value} {A1 A2 A3 : Option Addr} {L1 L2 L3 : List S47} (h : (W.cell? ⟨g0, 0, none⟩ = some a0 ∧ W.cell? ⟨g0, 1, none⟩ = some b0 ∧ W.cell? ⟨g0, 2, none⟩ = some c0) ∧ (W.cell? ⟨g1, 0, none⟩ = some a1 ∧ W.cell? ⟨g1, 1, none⟩ = some b1 ∧ W.cell? ⟨g1, 2, none⟩ = some c1) ∧ (W.cell? ⟨g2, 0, none⟩ = some a2 ∧ W.cell? ⟨g2, 1, none⟩ = some b2 ∧ W.cell? ⟨g2, 2, none⟩ = some c2) ∧ Aside0 (W.heap[g0]? = some (.cells #[a0, b0, c0] 23 (0, 0)) ∧ W.heap[g1]? = some (.cells #[a1, b1, c1] 23 (0, 0)) ∧ W.heap[g2]? = some (.cells #[a2, b2, c2] 23 (0, 0)) ∧ Below w.heap.size w W ∧ Kd.C k47 W A1 L1.length L1 ∧ Kd.C k47 W A2 L2.length L2 ∧ Kd.C k47 W A3 L3.length L3)) : Kd.C k47 W A1 L1.length L1 := by
  obtain ⟨-, -, -, ⟨h0, h1, h2, hB, r1, r2, r3⟩⟩ := h
  exact r1
theorem kC2 {w W : World} {g0 g1 g2 : Nat} {a0 b0 c0 a1 b1 c1 a2 b2 c2 : Value} {A1 A2 A3 : Option Addr} {L1 L2 L3 : List S47} (h : (W.cell? ⟨g0, 0, none⟩ = some a0 ∧ W.cell? ⟨g0, 1, none⟩ = some b0 ∧ W.cell? ⟨g0, 2, none⟩ = some c0) ∧ (W.cell? ⟨g1, 0, none⟩ = some a1 ∧ W.cell? ⟨g1, 1, none⟩ = some b1 ∧ W.cell? ⟨g1, 2, none⟩ = some c1) ∧ (W.cell? ⟨g2, 0, none⟩ = some a2 ∧ W.cell? ⟨g2, 1, none⟩ = some b2 ∧ W.cell? ⟨g2, 2, none⟩ = some c2) ∧ Aside0 (W.heap[g0]? = some (.cells #[a0, b0, c0] 23 (0, 0)) ∧ W.heap[g1]? = some (.cells #[a1, b1, c1] 23 (0, 0)) ∧ W.heap[g2]? = some (.cells #[a2, b2, c2] 23 (0, 0)) ∧ Below w.heap.size w W ∧ Kd.C k47 W A1 L1.length L1 ∧ Kd.C k47 W A2 L2.length L2 ∧ Kd.C k47 W A3 L3.length L3)) : Kd.C k47 W A2 L2.length L2 := by
  obtain ⟨-, -, -, ⟨h0, h1, h2, hB, r1, r2, r3⟩⟩ := h
  exact r2
theorem kC3 {w W : World} {g0 g1 g2 : Nat} {a0 b0 c0 a1 b1 c1 a2 b2 c2 : Value} {A1 A2 A3 : Option Addr} {L1 L2 L3 : List S47} (h : (W.cell? ⟨g0, 0, none⟩ = some a0 ∧ W.cell? ⟨g0, 1, none⟩ = some b0 ∧ W.cell? ⟨g0, 2, none⟩ = some c0) ∧ (W.cell? ⟨g1, 0, none⟩ = some a1 ∧ W.cell? ⟨g1, 1, none⟩ = some b1 ∧ W.cell? ⟨g1, 2, none⟩ = some c1) ∧ (W.cell? ⟨g2, 0, none⟩ = some a2 ∧ W.cell? ⟨g2, 1, none⟩ = some b2 ∧ W.cell? ⟨g2, 2, none⟩ = some c2) ∧ Aside0 (W.heap[g0]? = some (.cells #[a0, b0, c0] 23 (0, 0)) ∧ W.heap[g1]? = some (.cells #[a1, b1, c1] 23 (0, 0)) ∧ W.heap[g2]? = some (.cells #[a2, b2, c2] 23 (0, 0)) ∧ Below w.heap.size w W ∧ Kd.C k47 W A1 L1.length L1 ∧ Kd.C k47 W A2 L2.length L2 ∧ Kd.C k47 W A3 L3.length L3)) : Kd.C k47 W A3 L3.length L3 := by
  obtain ⟨-, -, -, ⟨h0, h1, h2, hB, r1, r2, r3⟩⟩ := h
  exact r3
theorem kB {w W : World} {g0 g1 g2 : Nat} {a0 b0 c0 a1 b1 c1 a2 b2 c2 : Value} {A1 A2 A3 : Option Addr} {L1 L2 L3 : List S47} (h : (W.cell? ⟨g0, 0, none⟩ = some a0 ∧ W.cell? ⟨g0, 1, none⟩ = some b0 ∧ W.cell? ⟨g0, 2, none⟩ = some c0) ∧ (W.cell? ⟨g1, 0, none⟩ = some a1 ∧ W.cell? ⟨g1, 1, none⟩ = some b1 ∧ W.cell? ⟨g1, 2, none⟩ = some c1) ∧ (W.cell? ⟨g2, 0, none⟩ = some a2 ∧ W.cell? ⟨g2, 1, none⟩ = some b2 ∧ W.cell? ⟨g2, 2, none⟩ = some c2) ∧ Aside0 (W.heap[g0]? = some (.cells #[a0, b0, c0] 23 (0, 0)) ∧ W.heap[g1]? = some (.cells #[a1, b1, c1] 23 (0, 0)) ∧ W.heap[g2]? = some (.cells #[a2, b2, c2] 23 (0, 0)) ∧ Below w.heap.size w W ∧ Kd.C k47 W A1 L1.length L1 ∧ Kd.C k47 W A2 L2.length L2 ∧ Kd.C k47 W A3 L3.length L3)) : Aside0 (Below w.heap.size w W) := by
  obtain ⟨-, -, -, ⟨h0, h1, h2, hB, r1, r2, r3⟩⟩ := h
  exact ⟨hB⟩

set_option maxRecDepth 100000 in
set_option maxHeartbeats 1000000 in
theorem joins_no (s h t a b : Int) (m : ¬ MayP s h t) (w : World) :
    Calls Try.prog 4 #[.agg #[.int .i64 s, .int .i64 h, .int .i64 t], .agg #[.int .i64 a, .int .i64 b]] w fun e w' => e = .returned (.bool true) ∧ Below w.heap.size w w' := by
  have A1 := Aside0.mk (may_no m)
  clear m
  go_enter Try.func4, Try.ntmps4
  go_wp2_with (fail)
  refine (lighterref09_May.calls s h t false _ A1.out).mono ?_
  rintro e w1 ⟨rfl, hd1⟩
  have HB := Aside0.mk (below_step (below_alloc (below_alloc (Below.refl w.heap.size w) _) _) hd1.below)
  obtain ⟨n1, rfl⟩ := hd1
  go_wp2_with (fail)
  refine (lighterlaw09_awake.calls 10 true _ awake10).mono ?_
  rintro e w9 ⟨rfl, hb9⟩
  go_wp2_with (fail)
  go_ret
  exact ⟨rfl, below_step HB.out hb9⟩

set_option maxRecDepth 100000 in
set_option maxHeartbeats 1000000 in
theorem joins_1 (s h t a b : Int) (m : MayP s h t) (p1 : a < 0) (w : World) :
    Calls Try.prog 4 #[.agg #[.int .i64 s, .int .i64 h, .int .i64 t], .agg #[.int .i64 a, .int .i64 b]] w fun e w' => e = .returned (.bool true) ∧ Below w.heap.size w w' := by
  have A1 := Aside0.mk (may_yes m)
  clear m
  go_enter Try.func4, Try.ntmps4
  go_wp2_with (fail)
  refine (lighterref09_May.calls s h t true _ A1.out).mono ?_
  rintro e w1 ⟨rfl, hd1⟩
  have HB := Aside0.mk (below_step (below_alloc (below_alloc (Below.refl w.heap.size w) _) _) hd1.below)
  obtain ⟨n1, rfl⟩ := hd1
  go_wp2_with (fail)
  refine (lighterlaw09_awake.calls 10 true _ awake10).mono ?_
  rintro e w9 ⟨rfl, hb9⟩
  go_wp2_with (fail)
  go_ret
  exact ⟨rfl, below_step HB.out hb9⟩

set_option maxRecDepth 100000 in
set_option maxHeartbeats 1000000 in
theorem joins_2 (s h t a b : Int) (m : MayP s h t) (p1 : 0 ≤ a) (p2 : b < 0) (w : World) :
    Calls Try.prog 4 #[.agg #[.int .i64 s, .int .i64 h, .int .i64 t], .agg #[.int .i64 a, .int .i64 b]] w fun e w' => e = .returned (.bool true) ∧ Below w.heap.size w w' := by
  have A1 := Aside0.mk (may_yes m)
  clear m
  go_enter Try.func4, Try.ntmps4
  go_wp2_with (fail)
  refine (lighterref09_May.calls s h t true _ A1.out).mono ?_
  rintro e w1 ⟨rfl, hd1⟩
  have HB := Aside0.mk (below_step (below_alloc (below_alloc (Below.refl w.heap.size w) _) _) hd1.below)
  obtain ⟨n1, rfl⟩ := hd1
  go_wp2_with (fail)
  refine (lighterlaw09_awake.calls 10 true _ awake10).mono ?_
  rintro e w9 ⟨rfl, hb9⟩
  go_wp2_with (fail)
  go_ret
  exact ⟨rfl, below_step HB.out hb9⟩

set_option maxRecDepth 100000 in
set_option maxHeartbeats 1000000 in
theorem joins_3 (s h t a b : Int) (m : MayP s h t) (p1 : 0 ≤ a) (p2 : 0 ≤ b) (p3 : 65536 < a) (w : World) :
    Calls Try.prog 4 #[.agg #[.int .i64 s, .int .i64 h, .int .i64 t], .agg #[.int .i64 a, .int .i64 b]] w fun e w' => e = .returned (.bool true) ∧ Below w.heap.size w w' := by
  have A1 := Aside0.mk (may_yes m)
  clear m
  go_enter Try.func4, Try.ntmps4
  go_wp2_with (fail)
  refine (lighterref09_May.calls s h t true _ A1.out).mono ?_
  rintro e w1 ⟨rfl, hd1⟩
  have HB := Aside0.mk (below_step (below_alloc (below_alloc (Below.refl w.heap.size w) _) _) hd1.below)
  obtain ⟨n1, rfl⟩ := hd1
  go_wp2_with (fail)
  refine (lighterlaw09_awake.calls 10 true _ awake10).mono ?_
  rintro e w9 ⟨rfl, hb9⟩
  go_wp2_with (fail)
  go_ret
  exact ⟨rfl, below_step HB.out hb9⟩

set_option maxRecDepth 100000 in
set_option maxHeartbeats 1000000 in
theorem joins_4 (s h t a b : Int) (m : MayP s h t) (p1 : 0 ≤ a) (p2 : 0 ≤ b) (p3 : a ≤ 65536) (p4 : 65536 < b) (w : World) :
    Calls Try.prog 4 #[.agg #[.int .i64 s, .int .i64 h, .int .i64 t], .agg #[.int .i64 a, .int .i64 b]] w fun e w' => e = .returned (.bool true) ∧ Below w.heap.size w w' := by
  have A1 := Aside0.mk (may_yes m)
  clear m
  go_enter Try.func4, Try.ntmps4
  go_wp2_with (fail)
  refine (lighterref09_May.calls s h t true _ A1.out).mono ?_
  rintro e w1 ⟨rfl, hd1⟩
  have HB := Aside0.mk (below_step (below_alloc (below_alloc (Below.refl w.heap.size w) _) _) hd1.below)
  obtain ⟨n1, rfl⟩ := hd1
  go_wp2_with (fail)
  refine (lighterlaw09_awake.calls 10 true _ awake10).mono ?_
  rintro e w9 ⟨rfl, hb9⟩
  go_wp2_with (fail)
  go_ret
  exact ⟨rfl, below_step HB.out hb9⟩

set_option maxRecDepth 100000 in
set_option maxHeartbeats 1000000 in
theorem joins_first (s h t a b : Int) (m : MayP s h t) (p1 : 0 ≤ a) (p2 : 0 ≤ b) (p3 : a ≤ 65536) (p4 : b ≤ 65536) (e1 : Int) (q1 : e1 ≠ 0) (g1 : Int) (q2 : g1 ≠ 0) (y0 y1 y2 y3 : Int) (L : List S47) (a2 : ring_Ring_Push.f 3 s h t a = some (s, h, t, [], e1)) (a3 : ring_Ring_Push.f 3 s h t b = some (y0, y1, y2, L, y3)) (a4 : ring_Ring_Push.f 3 s h t (a + b) = some (s, h, t, [], g1)) (w : World) :
    Calls Try.prog 4 #[.agg #[.int .i64 s, .int .i64 h, .int .i64 t], .agg #[.int .i64 a, .int .i64 b]] w fun e w' => e = .returned (.bool true) ∧ Below w.heap.size w w' := by
  have A1 := Aside0.mk (may_yes m)
  have m' := m
  obtain ⟨m1, m2, m3, m4, m5, m6⟩ := m'
  have A2 := Aside0.mk a2
  have A3 := Aside0.mk a3
  have A4 := Aside0.mk a4
  clear a2 a3 a4 m
  have u1 : (e1 != 0) = true := by simpa using q1
  have u2 : (g1 != 0) = true := by simpa using q2
  clear q1 q2
  go_enter Try.func4, Try.ntmps4
  go_wp2_with (fail)
  refine (lighterref09_May.calls s h t true _ A1.out).mono ?_
  rintro e w1 ⟨rfl, hd1⟩
  have HB := Aside0.mk (below_step (below_alloc (below_alloc (Below.refl w.heap.size w) _) _) hd1.below)
  obtain ⟨n1, rfl⟩ := hd1
  go_wp2_with (fail)
  refine (ring_Ring_Push.calls 3 s h t a _ _ _ _ _ _ A2.out).mono ?_
  rintro e w2 ⟨v2, rfl, ho2, hb2⟩
  obtain ⟨S2, k2, rfl, hk2, hr2⟩ := Kd.R_reads ho2
  have R2 := Aside0.mk hr2
  have Z2 := Aside0.mk hk2
  have B0 := Aside0.mk (blk_below (blk_drewN (blk_alloc (blk_new w _) _) n1) hb2)
  have HB := Aside0.mk (below_step HB.out hb2)
  clear ho2 hr2 hk2 hb2
  obtain ⟨⟨c0, c1, c2⟩, f0, f1, f2⟩ := three B0.out
  have z0 := blk_lt B0.out
  go_wp2_with (fail)
  refine (ring_Ring_Push.calls 3 s h t b _ _ _ _ _ _ A3.out).mono ?_
  rintro e w3 ⟨v3, rfl, ho3, hb3⟩
  obtain ⟨S3, k3, rfl, hk3, hr3⟩ := Kd.R_reads ho3
  have R2 := Aside0.mk (Kd.C_below (Kd.C_alloc R2.out _) hb3)
  have R3 := Aside0.mk hr3
  have Z3 := Aside0.mk hk3
  have B0 := Aside0.mk (blk_below (blk_alloc B0.out _) hb3)
  have HB := Aside0.mk (below_step (below_alloc HB.out _) hb3)
  clear ho3 hr3 hk3 hb3 c0 c1 c2 f0 f1 f2 z0
  obtain ⟨⟨c0, c1, c2⟩, f0, f1, f2⟩ := three B0.out
  have z0 := blk_lt B0.out
  go_wp2_with (fail)
  refine (ring_Ring_Push.calls 3 s h t (a + b) _ _ _ _ _ _ A4.out).mono ?_
  rintro e w4 ⟨v4, rfl, ho4, hb4⟩
  obtain ⟨S4, k4, rfl, hk4, hr4⟩ := Kd.R_reads ho4
  have R2 := Aside0.mk (Kd.C_below (Kd.C_alloc R2.out _) hb4)
  have R3 := Aside0.mk (Kd.C_below (Kd.C_alloc R3.out _) hb4)
  have R4 := Aside0.mk hr4
  have Z4 := Aside0.mk hk4
  have B0 := Aside0.mk (blk_below (blk_alloc B0.out _) hb4)
  have B1 := Aside0.mk (blk_below (blk_new w3 _) hb4)
  have HB := Aside0.mk (below_step (below_alloc HB.out _) hb4)
  clear ho4 hr4 hk4 c0 c1 c2 f0 f1 f2 z0
  obtain ⟨⟨c0, c1, c2⟩, f0, f1, f2⟩ := three B0.out
  obtain ⟨⟨c10, c11, c12⟩, f10, f11, f12⟩ := three B1.out
  have z0 := blk_lt B0.out
  have z1 := blk_lt B1.out
  go_wp2_with (fail)
  have HB := Aside0.mk (below_alloc HB.out (.cells #[.int .i64 s, .int .i64 h, .int .i64 t] 23))
  refine (lighterlaw09_awake.calls 10 true _ awake10).mono ?_
  rintro e w9 ⟨rfl, hb9⟩
  go_wp2_with (fail)
  go_ret
  exact ⟨rfl, below_step HB.out hb9⟩

set_option maxRecDepth 100000 in
set_option maxHeartbeats 1000000 in
theorem joins_second (s h t a b : Int) (m : MayP s h t) (p1 : 0 ≤ a) (p2 : 0 ≤ b) (p3 : a ≤ 65536) (p4 : b ≤ 65536) (f1 : Int) (q1 : f1 ≠ 0) (g1 : Int) (q2 : g1 ≠ 0) (L : List S47) (a2 : ring_Ring_Push.f 3 s h t a = some (s, h + a, t, L, 0)) (a3 : ring_Ring_Push.f 3 s (h + a) t b = some (s, h + a, t, [], f1)) (a4 : ring_Ring_Push.f 3 s h t (a + b) = some (s, h, t, [], g1)) (w : World) :
    Calls Try.prog 4 #[.agg #[.int .i64 s, .int .i64 h, .int .i64 t], .agg #[.int .i64 a, .int .i64 b]] w fun e w' => e = .returned (.bool true) ∧ Below w.heap.size w w' := by
  have A1 := Aside0.mk (may_yes m)
  have m' := m
  obtain ⟨m1, m2, m3, m4, m5, m6⟩ := m'
  have A2 := Aside0.mk a2
  have A3 := Aside0.mk a3
  have A4 := Aside0.mk a4
  clear a2 a3 a4 m
  have u1 : (f1 != 0) = true := by simpa using q1
  have u2 : (g1 != 0) = true := by simpa using q2
  clear q1 q2
  go_enter Try.func4, Try.ntmps4
  go_wp2_with (fail)
  refine (lighterref09_May.calls s h t true _ A1.out).mono ?_
  rintro e w1 ⟨rfl, hd1⟩
  have HB := Aside0.mk (below_step (below_alloc (below_alloc (Below.refl w.heap.size w) _) _) hd1.below)
  obtain ⟨n1, rfl⟩ := hd1
  go_wp2_with (fail)
  refine (ring_Ring_Push.calls 3 s h t a _ _ _ _ _ _ A2.out).mono ?_
  rintro e w2 ⟨v2, rfl, ho2, hb2⟩
  obtain ⟨S2, k2, rfl, hk2, hr2⟩ := Kd.R_reads ho2
  have R2 := Aside0.mk hr2
  have Z2 := Aside0.mk hk2
  have B0 := Aside0.mk (blk_below (blk_drewN (blk_alloc (blk_new w _) _) n1) hb2)
  have HB := Aside0.mk (below_step HB.out hb2)
  clear ho2 hr2 hk2 hb2
  obtain ⟨⟨c0, c1, c2⟩, f0, f1, f2⟩ := three B0.out
  have z0 := blk_lt B0.out
  go_wp2_with (fail)
  refine (ring_Ring_Push.calls 3 s (h + a) t b _ _ _ _ _ _ A3.out).mono ?_
  rintro e w3 ⟨v3, rfl, ho3, hb3⟩
  obtain ⟨S3, k3, rfl, hk3, hr3⟩ := Kd.R_reads ho3
  have R2 := Aside0.mk (Kd.C_below (Kd.C_alloc R2.out _) hb3)
  have R3 := Aside0.mk hr3
  have Z3 := Aside0.mk hk3
  have B0 := Aside0.mk (blk_below (blk_alloc B0.out _) hb3)
  have HB := Aside0.mk (below_step (below_alloc HB.out _) hb3)
  clear ho3 hr3 hk3 hb3 c0 c1 c2 f0 f1 f2 z0
  obtain ⟨⟨c0, c1, c2⟩, f0, f1, f2⟩ := three B0.out
  have z0 := blk_lt B0.out
  go_wp2_with (fail)
  refine (ring_Ring_Push.calls 3 s h t (a + b) _ _ _ _ _ _ A4.out).mono ?_
  rintro e w4 ⟨v4, rfl, ho4, hb4⟩
  obtain ⟨S4, k4, rfl, hk4, hr4⟩ := Kd.R_reads ho4
  have R2 := Aside0.mk (Kd.C_below (Kd.C_alloc R2.out _) hb4)
  have R3 := Aside0.mk (Kd.C_below (Kd.C_alloc R3.out _) hb4)
  have R4 := Aside0.mk hr4
  have Z4 := Aside0.mk hk4
  have B0 := Aside0.mk (blk_below (blk_alloc B0.out _) hb4)
  have B1 := Aside0.mk (blk_below (blk_new w3 _) hb4)
  have HB := Aside0.mk (below_step (below_alloc HB.out _) hb4)
  clear ho4 hr4 hk4 c0 c1 c2 f0 f1 f2 z0
  obtain ⟨⟨c0, c1, c2⟩, f0, f1, f2⟩ := three B0.out
  obtain ⟨⟨c10, c11, c12⟩, f10, f11, f12⟩ := three B1.out
  have z0 := blk_lt B0.out
  have z1 := blk_lt B1.out
  go_wp2_with (fail)
  have HB := Aside0.mk (below_alloc HB.out (.cells #[.int .i64 s, .int .i64 h, .int .i64 t] 23))
  refine (lighterlaw09_awake.calls 10 true _ awake10).mono ?_
  rintro e w9 ⟨rfl, hb9⟩
  go_wp2_with (fail)
  go_ret
  exact ⟨rfl, below_step HB.out hb9⟩

set_option maxRecDepth 100000 in
set_option maxHeartbeats 1000000 in
theorem joins_both (s h t a b : Int) (m : MayP s h t) (p1 : 0 ≤ a) (p2 : 0 ≤ b) (p3 : a ≤ 65536) (p4 : b ≤ 65536) (q1 : a + b < 1099511627776 - h) (q2 : a + b ≤ s - (h - t)) (w : World) :
    Calls Try.prog 4 #[.agg #[.int .i64 s, .int .i64 h, .int .i64 t], .agg #[.int .i64 a, .int .i64 b]] w fun e w' => e = .returned (.bool true) ∧ Below w.heap.size w w' := by
  have A1 := Aside0.mk (may_yes m)
  have m' := m
  obtain ⟨m1, m2, m3, m4, m5, m6⟩ := m'
  have A2 := Aside0.mk (push_ok (n := a) m p1 (by omega) (by omega) 3 (by omega))
  have A3 := Aside0.mk (push_ok (h := h + a) (n := b) ⟨m1, m2, m3, by omega, by omega, by omega⟩ p2 (by omega) (by omega) 3 (by omega))
  have A4 := Aside0.mk (show ring_Ring_Push.f 3 s h t (a + b) = some (s, h + a + b, t, spansL s h (a + b), 0) by rw [push_ok m (by omega) q1 q2 3 (by omega), Int.add_assoc])
  have A5 := Aside0.mk (size_spans (s := s) (pos := h) (n := a) m1 m2 p1 (by omega) 3 (by omega))
  have A6 := Aside0.mk (size_spans (s := s) (pos := h + a) (n := b) m1 m2 p2 (by omega) 3 (by omega))
  have A7 := Aside0.mk (size_spans (s := s) (pos := h) (n := a + b) m1 m2 (by omega) (by omega) 3 (by omega))
  have A8 := Aside0.mk (used_yes m 3 (by omega))
  have A9 := Aside0.mk (show ring_Ring_Used.f 3 s (h + a + b) t = some (h - t + a + b) by rw [used_yes (h := h + a + b) ⟨m1, m2, m3, by omega, by omega, by omega⟩ 3 (by omega)]; congr 1; omega)
  clear m
  go_enter Try.func4, Try.ntmps4
  go_wp2_with (fail)
  refine (lighterref09_May.calls s h t true _ A1.out).mono ?_
  rintro e w1 ⟨rfl, hd1⟩
  have HB := Aside0.mk (below_step (below_alloc (below_alloc (Below.refl w.heap.size w) _) _) hd1.below)
  obtain ⟨n1, rfl⟩ := hd1
  go_wp2_with (fail)
  refine (ring_Ring_Push.calls 3 s h t a _ _ _ _ _ _ A2.out).mono ?_
  rintro e w2 ⟨v2, rfl, ho2, hb2⟩
  obtain ⟨S2, k2, rfl, hk2, hr2⟩ := Kd.R_reads ho2
  have R2 := Aside0.mk hr2
  have Z2 := Aside0.mk hk2
  have B0 := Aside0.mk (blk_below (blk_drewN (blk_alloc (blk_new w _) _) n1) hb2)
  have HB := Aside0.mk (below_step HB.out hb2)
  clear ho2 hr2 hk2 hb2
  obtain ⟨⟨c0, c1, c2⟩, f0, f1, f2⟩ := three B0.out
  have z0 := blk_lt B0.out
  go_wp2_with (fail)
  refine (ring_Ring_Push.calls 3 s (h + a) t b _ _ _ _ _ _ A3.out).mono ?_
  rintro e w3 ⟨v3, rfl, ho3, hb3⟩
  obtain ⟨S3, k3, rfl, hk3, hr3⟩ := Kd.R_reads ho3
  have R2 := Aside0.mk (Kd.C_below (Kd.C_alloc R2.out _) hb3)
  have R3 := Aside0.mk hr3
  have Z3 := Aside0.mk hk3
  have B0 := Aside0.mk (blk_below (blk_alloc B0.out _) hb3)
  have HB := Aside0.mk (below_step (below_alloc HB.out _) hb3)
  clear ho3 hr3 hk3 hb3 c0 c1 c2 f0 f1 f2 z0
  obtain ⟨⟨c0, c1, c2⟩, f0, f1, f2⟩ := three B0.out
  have z0 := blk_lt B0.out
  go_wp2_with (fail)
  refine (ring_Ring_Push.calls 3 s h t (a + b) _ _ _ _ _ _ A4.out).mono ?_
  rintro e w4 ⟨v4, rfl, ho4, hb4⟩
  obtain ⟨S4, k4, rfl, hk4, hr4⟩ := Kd.R_reads ho4
  have R2 := Aside0.mk (Kd.C_below (Kd.C_alloc R2.out _) hb4)
  have R3 := Aside0.mk (Kd.C_below (Kd.C_alloc R3.out _) hb4)
  have R4 := Aside0.mk hr4
  have Z4 := Aside0.mk hk4
  have B0 := Aside0.mk (blk_below (blk_alloc B0.out _) hb4)
  have B1 := Aside0.mk (blk_below (blk_new w3 _) hb4)
  have HB := Aside0.mk (below_step (below_alloc HB.out _) hb4)
  clear ho4 hr4 hk4 c0 c1 c2 f0 f1 f2 z0
  obtain ⟨⟨c0, c1, c2⟩, f0, f1, f2⟩ := three B0.out
  obtain ⟨⟨c10, c11, c12⟩, f10, f11, f12⟩ := three B1.out
  have z0 := blk_lt B0.out
  have z1 := blk_lt B1.out
  go_wp2_with (fail)
  have hS : ((w4.alloc (.cells #[.int .i64 s, .int .i64 (h + a + b), .int .i64 t] 23)).cell? ⟨w.heap.size, 0, none⟩ = some (.int .i64 s) ∧ (w4.alloc (.cells #[.int .i64 s, .int .i64 (h + a + b), .int .i64 t] 23)).cell? ⟨w.heap.size, 1, none⟩ = some (.int .i64 h) ∧ (w4.alloc (.cells #[.int .i64 s, .int .i64 (h + a + b), .int .i64 t] 23)).cell? ⟨w.heap.size, 2, none⟩ = some (.int .i64 t)) ∧ ((w4.alloc (.cells #[.int .i64 s, .int .i64 (h + a + b), .int .i64 t] 23)).cell? ⟨w3.heap.size, 0, none⟩ = some (.int .i64 s) ∧ (w4.alloc (.cells #[.int .i64 s, .int .i64 (h + a + b), .int .i64 t] 23)).cell? ⟨w3.heap.size, 1, none⟩ = some (.int .i64 (h + a + b)) ∧ (w4.alloc (.cells #[.int .i64 s, .int .i64 (h + a + b), .int .i64 t] 23)).cell? ⟨w3.heap.size, 2, none⟩ = some (.int .i64 t)) ∧ ((w4.alloc (.cells #[.int .i64 s, .int .i64 (h + a + b), .int .i64 t] 23)).cell? ⟨w4.heap.size, 0, none⟩ = some (.int .i64 s) ∧ (w4.alloc (.cells #[.int .i64 s, .int .i64 (h + a + b), .int .i64 t] 23)).cell? ⟨w4.heap.size, 1, none⟩ = some (.int .i64 (h + a + b)) ∧ (w4.alloc (.cells #[.int .i64 s, .int .i64 (h + a + b), .int .i64 t] 23)).cell? ⟨w4.heap.size, 2, none⟩ = some (.int .i64 t)) ∧ Aside0 ((w4.alloc (.cells #[.int .i64 s, .int .i64 (h + a + b), .int .i64 t] 23)).heap[w.heap.size]? = some (.cells #[.int .i64 s, .int .i64 h, .int .i64 t] 23 (0, 0)) ∧ (w4.alloc (.cells #[.int .i64 s, .int .i64 (h + a + b), .int .i64 t] 23)).heap[w3.heap.size]? = some (.cells #[.int .i64 s, .int .i64 (h + a + b), .int .i64 t] 23 (0, 0)) ∧ (w4.alloc (.cells #[.int .i64 s, .int .i64 (h + a + b), .int .i64 t] 23)).heap[w4.heap.size]? = some (.cells #[.int .i64 s, .int .i64 (h + a + b), .int .i64 t] 23 (0, 0)) ∧ Below w.heap.size w (w4.alloc (.cells #[.int .i64 s, .int .i64 (h + a + b), .int .i64 t] 23)) ∧ Kd.C k47 (w4.alloc (.cells #[.int .i64 s, .int .i64 (h + a + b), .int .i64 t] 23)) S2 (spansL s h a).length (spansL s h a) ∧ Kd.C k47 (w4.alloc (.cells #[.int .i64 s, .int .i64 (h + a + b), .int .i64 t] 23)) S3 (spansL s (h + a) b).length (spansL s (h + a) b) ∧ Kd.C k47 (w4.alloc (.cells #[.int .i64 s, .int .i64 (h + a + b), .int .i64 t] 23)) S4 (spansL s h (a + b)).length (spansL s h (a + b))) := ⟨(three (blk_alloc B0.out _)).1, (three (blk_alloc B1.out _)).1, (three (blk_new w4 _)).1, ⟨blk_alloc B0.out _, blk_alloc B1.out _, blk_new w4 _, below_alloc HB.out _, Kd.C_alloc R2.out _, Kd.C_alloc R3.out _, Kd.C_alloc R4.out _⟩⟩
  clear c0 c1 c2 f0 f1 f2 z0 c10 c11 c12 f10 f11 f12 z1 hb4 B0 B1 HB R2 R3 R4
  have q3 : IntKind.i64.wrap (a + b) = a + b := IntWalk.i64_in _ (by omega)
  have q4 : IntKind.i64.wrap (h - t + a) = h - t + a := IntWalk.i64_in _ (by omega)
  have q5 : IntKind.i64.wrap (h - t + a + b) = h - t + a + b := IntWalk.i64_in _ (by omega)
  go_region_held3 (fun W' => (W'.cell? ⟨w.heap.size, 0, none⟩ = some (.int .i64 s) ∧ W'.cell? ⟨w.heap.size, 1, none⟩ = some (.int .i64 h) ∧ W'.cell? ⟨w.heap.size, 2, none⟩ = some (.int .i64 t)) ∧ (W'.cell? ⟨w3.heap.size, 0, none⟩ = some (.int .i64 s) ∧ W'.cell? ⟨w3.heap.size, 1, none⟩ = some (.int .i64 (h + a + b)) ∧ W'.cell? ⟨w3.heap.size, 2, none⟩ = some (.int .i64 t)) ∧ (W'.cell? ⟨w4.heap.size, 0, none⟩ = some (.int .i64 s) ∧ W'.cell? ⟨w4.heap.size, 1, none⟩ = some (.int .i64 (h + a + b)) ∧ W'.cell? ⟨w4.heap.size, 2, none⟩ = some (.int .i64 t)) ∧ Aside0 (W'.heap[w.heap.size]? = some (.cells #[.int .i64 s, .int .i64 h, .int .i64 t] 23 (0, 0)) ∧ W'.heap[w3.heap.size]? = some (.cells #[.int .i64 s, .int .i64 (h + a + b), .int .i64 t] 23 (0, 0)) ∧ W'.heap[w4.heap.size]? = some (.cells #[.int .i64 s, .int .i64 (h + a + b), .int .i64 t] 23 (0, 0)) ∧ Below w.heap.size w W' ∧ Kd.C k47 W' S2 (spansL s h a).length (spansL s h a) ∧ Kd.C k47 W' S3 (spansL s (h + a) b).length (spansL s (h + a) b) ∧ Kd.C k47 W' S4 (spansL s h (a + b)).length (spansL s h (a + b)))) (first | assumption | exact keep3 (by assumption) (by assumption) | exact keep3 (by assumption) (below_drew (Below.refl _ _)) | exact keep3 (by assumption) (pw_below_drewN (Below.refl _ _) _))
    (first | (go_at_call 14; with_reducible refine (lighterlaw09_size.calls 3 S2 k2 _ a _ (kC1 (by assumption)) Z2.out A5.out).mono ?_; rintro e w5 ⟨rfl, ⟨n5, rfl⟩⟩) | (go_at_call 14; with_reducible refine (lighterlaw09_size.calls 3 S3 k3 _ b _ (kC2 (by assumption)) Z3.out A6.out).mono ?_; rintro e w5 ⟨rfl, ⟨n6, rfl⟩⟩) | (go_at_call 14; with_reducible refine (lighterlaw09_size.calls 3 S4 k4 _ (a + b) _ (kC3 (by assumption)) Z4.out A7.out).mono ?_; rintro e w5 ⟨rfl, ⟨n7, rfl⟩⟩) | (go_at_call 15; with_reducible refine (ring_Ring_Used.calls 3 s h t _ _ A8.out).mono ?_; rintro e w5 ⟨rfl, hb5⟩) | (go_at_call 15; with_reducible refine (ring_Ring_Used.calls 3 s (h + a + b) t _ _ A9.out).mono ?_; rintro e w5 ⟨rfl, hb5⟩) | (go_at_call 11; with_reducible refine (lighterlaw09_awake.calls 10 true _ awake10).mono ?_; rintro e w5 ⟨rfl, hb5⟩))
  all_goals
    rename_i hH
    have HB := kB hH
    clear hH
    go_wp2_with (fail)
    go_ret
    exact ⟨rfl, HB.out⟩

theorem push_bad {s h t n : Int} (m : MayP s h t) (hn : n < 0 ∨ 1099511627776 - h ≤ n ∨ s - (h - t) < n) : ∃ e, e ≠ 0 ∧ ring_Ring_Push.f 3 s h t n = some (s, h, t, [], e) := by
  by_cases a : n < 0 ∨ 1099511627776 - h ≤ n
  · exact ⟨1, by decide, push_arg m a 3 (by omega)⟩
  · exact ⟨32, by decide, push_full m (by omega) (by omega) (by omega) 3 (by omega)⟩
theorem push_any {s h t n : Int} (m : MayP s h t) : ∃ y0 y1 y2 y3 L, ring_Ring_Push.f 3 s h t n = some (y0, y1, y2, L, y3) := by
  by_cases a : n < 0 ∨ 1099511627776 - h ≤ n ∨ s - (h - t) < n
  · obtain ⟨e, _, h⟩ := push_bad m a
    exact ⟨_, _, _, _, _, h⟩
  · exact ⟨_, _, _, _, _, push_ok m (by omega) (by omega) (by omega) 3 (by omega)⟩
theorem joins_walk (s h t a b : Int) (w : World) :
    Calls Try.prog 4 #[.agg #[.int .i64 s, .int .i64 h, .int .i64 t], .agg #[.int .i64 a, .int .i64 b]] w fun e w' => e = .returned (.bool true) ∧ Below w.heap.size w w' := by
  by_cases m : MayP s h t
  · by_cases p1 : a < 0
    · exact joins_1 s h t a b m p1 w
    · by_cases p2 : b < 0
      · exact joins_2 s h t a b m (by omega) p2 w
      · by_cases p3 : 65536 < a
        · exact joins_3 s h t a b m (by omega) (by omega) p3 w
        · by_cases p4 : 65536 < b
          · exact joins_4 s h t a b m (by omega) (by omega) (by omega) p4 w
          · have m' := m
            obtain ⟨m1, m2, m3, m4, m5, m6⟩ := m'
            by_cases q : 1099511627776 - h ≤ a ∨ s - (h - t) < a
            · obtain ⟨e1, n1, a2⟩ := push_bad (n := a) m (by omega)
              obtain ⟨y0, y1, y2, y3, L, a3⟩ := push_any (n := b) m
              obtain ⟨g1, n2, a4⟩ := push_bad (n := a + b) m (by omega)
              exact joins_first s h t a b m (by omega) (by omega) (by omega) (by omega) e1 n1 g1 n2 y0 y1 y2 y3 L a2 a3 a4 w
            · by_cases q' : 1099511627776 - h ≤ a + b ∨ s - (h - t) < a + b
              · have a2 := push_ok (n := a) m (by omega) (by omega) (by omega) 3 (by omega)
                obtain ⟨f1, n1, a3⟩ := push_bad (s := s) (h := h + a) (t := t) (n := b) ⟨m1, m2, m3, by omega, by omega, by omega⟩ (by omega)
                obtain ⟨g1, n2, a4⟩ := push_bad (n := a + b) m (by omega)
                exact joins_second s h t a b m (by omega) (by omega) (by omega) (by omega) f1 n1 g1 n2 _ a2 a3 a4 w
              · exact joins_both s h t a b m (by omega) (by omega) (by omega) (by omega) (by omega) (by omega) w
  · exact joins_no s h t a b m w

end Go.Proofs.Ytkbohbelmgmlnaa.PRingRound
