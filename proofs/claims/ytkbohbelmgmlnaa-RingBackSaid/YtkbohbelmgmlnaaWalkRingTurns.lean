/- The walk of RingTurns, a theorem for each way that Push and Pop can answer (the text is printed by a program of this session, wip/ring/turns.py). Conditions: what each theorem says. -/
import Derived.Test.YtkbohbelmgmlnaaRLRingAsks
import Derived.Test.YtkbohbelmgmlnaaPRingAsksx1
namespace Go.Proofs.Ytkbohbelmgmlnaa.PRingAsks
open Go.RowKit Go.Proofs.YtkbohbelmgmlnaaW.PrintWords Go.Proofs.YtkbohbelmgmlnaaW.PrintLast Go.Proofs.YtkbohbelmgmlnaaW.PrintMore
attribute [local go_sem high] eqA23
set_option linter.unusedVariables false
set_option linter.unusedSimpArgs false

theorem three {W : World} {g : Nat} {a b c : Value} (h : W.heap[g]? = some (.cells #[a, b, c] 23 (0, 0))) :
    (W.cell? ⟨g, 0, none⟩ = some a ∧ W.cell? ⟨g, 1, none⟩ = some b ∧ W.cell? ⟨g, 2, none⟩ = some c) ∧ W.frozen? ⟨g, 0, none⟩ = false ∧ W.frozen? ⟨g, 1, none⟩ = false ∧ W.frozen? ⟨g, 2, none⟩ = false :=
  ⟨⟨(blk_cell h 0).trans rfl, (blk_cell h 1).trans rfl, (blk_cell h 2).trans rfl⟩, blk_frozen h 0, blk_frozen h 1, blk_frozen h 2⟩

set_option maxRecDepth 100000 in
set_option maxHeartbeats 800000 in
theorem turns_no (s h t n : Int) (m : ¬ MayP s h t) (w : World) :
    Calls Try.prog 3 #[.agg #[.int .i64 s, .int .i64 h, .int .i64 t], .int .i64 n] w fun e w' => e = .returned (.bool true) ∧ Below w.heap.size w w' := by
  have A1 := Aside0.mk (push_no (n := n) m 3 (by omega))
  have A2 := Aside0.mk (pop_no (n := n) m 3 (by omega))
  have A3 := Aside0.mk (may_no m)
  clear m
  go_enter Try.func3, Try.ntmps3
  go_wp2_with (fail)
  refine (ring_Ring_Push.calls 3 s h t n _ _ _ _ _ _ A1.out).mono ?_
  rintro e w1 ⟨v1, rfl, ho1, hb1⟩
  obtain ⟨S1, k1, rfl, hk1, hr1⟩ := Kd.R_reads ho1
  have R1 := Aside0.mk hr1
  have Z1 := Aside0.mk hk1
  clear ho1 hr1 hk1
  have B0 := Aside0.mk (blk_below (blk_new w _) hb1)
  obtain ⟨⟨c0, c1, c2⟩, f0, f1, f2⟩ := three B0.out
  have z1 := blk_lt B0.out
  have HB := Aside0.mk (below_step (below_alloc (Below.refl w.heap.size w) _) hb1)
  clear hb1
  go_wp2_with (fail)
  refine (ring_Ring_Pop.calls 3 s h t n _ _ _ _ _ _ A2.out).mono ?_
  rintro e w2 ⟨v2, rfl, ho2, hb2⟩
  obtain ⟨S2, k2, rfl, hk2, hr2⟩ := Kd.R_reads ho2
  have R1 := Aside0.mk (Kd.C_below (Kd.C_alloc R1.out _) hb2)
  have R2 := Aside0.mk hr2
  have Z2 := Aside0.mk hk2
  clear ho2 hr2 hk2
  clear c0 c1 c2 f0 f1 f2
  have B0 := Aside0.mk (blk_below (blk_alloc B0.out _) hb2)
  have B1 := Aside0.mk (blk_below (blk_new w1 _) hb2)
  obtain ⟨⟨c0, c1, c2⟩, f0, f1, f2⟩ := three B0.out
  obtain ⟨⟨c10, c11, c12⟩, f10, f11, f12⟩ := three B1.out
  have z2 := blk_lt B1.out
  have z3 := blk_lt B0.out
  have HB := Aside0.mk (below_step (below_alloc HB.out _) hb2)
  clear hb2
  go_wp2_with (fail)
  refine (lighterref09_May.calls s h t false _ A3.out).mono ?_
  rintro e w3 ⟨rfl, hd3⟩
  have R1 := Aside0.mk (Kd.C_below (Kd.C_alloc R1.out _) hd3.below)
  have R2 := Aside0.mk (Kd.C_below (Kd.C_alloc R2.out _) hd3.below)
  have HB := Aside0.mk (below_step (below_alloc HB.out _) hd3.below)
  obtain ⟨n3, rfl⟩ := hd3
  go_wp2_with (fail)
  refine (lighterlaw09_awake.calls 10 true _ awake10).mono ?_
  rintro e w9 ⟨rfl, hb9⟩
  go_wp2_with (fail)
  go_ret
  exact ⟨rfl, below_step HB.out hb9⟩

set_option maxRecDepth 100000 in
set_option maxHeartbeats 800000 in
theorem turns_great (s h t n : Int) (m : MayP s h t) (hs : 300 < s) (L1 L2 : List S47) (r1 r2 r3 r4 e1 e2 e3 e4 : Int) (a1 : ring_Ring_Push.f 3 s h t n = some (r1, r2, r3, L1, r4)) (a2 : ring_Ring_Pop.f 3 s h t n = some (e1, e2, e3, L2, e4)) (w : World) :
    Calls Try.prog 3 #[.agg #[.int .i64 s, .int .i64 h, .int .i64 t], .int .i64 n] w fun e w' => e = .returned (.bool true) ∧ Below w.heap.size w w' := by
  have A1 := Aside0.mk a1
  have A2 := Aside0.mk a2
  clear a1 a2
  have A3 := Aside0.mk (may_yes m)
  obtain ⟨m1, m2, m3, m4, m5, m6⟩ := m
  go_enter Try.func3, Try.ntmps3
  go_wp2_with (fail)
  refine (ring_Ring_Push.calls 3 s h t n _ _ _ _ _ _ A1.out).mono ?_
  rintro e w1 ⟨v1, rfl, ho1, hb1⟩
  obtain ⟨S1, k1, rfl, hk1, hr1⟩ := Kd.R_reads ho1
  have R1 := Aside0.mk hr1
  have Z1 := Aside0.mk hk1
  clear ho1 hr1 hk1
  have B0 := Aside0.mk (blk_below (blk_new w _) hb1)
  obtain ⟨⟨c0, c1, c2⟩, f0, f1, f2⟩ := three B0.out
  have z1 := blk_lt B0.out
  have HB := Aside0.mk (below_step (below_alloc (Below.refl w.heap.size w) _) hb1)
  clear hb1
  go_wp2_with (fail)
  refine (ring_Ring_Pop.calls 3 s h t n _ _ _ _ _ _ A2.out).mono ?_
  rintro e w2 ⟨v2, rfl, ho2, hb2⟩
  obtain ⟨S2, k2, rfl, hk2, hr2⟩ := Kd.R_reads ho2
  have R1 := Aside0.mk (Kd.C_below (Kd.C_alloc R1.out _) hb2)
  have R2 := Aside0.mk hr2
  have Z2 := Aside0.mk hk2
  clear ho2 hr2 hk2
  clear c0 c1 c2 f0 f1 f2
  have B0 := Aside0.mk (blk_below (blk_alloc B0.out _) hb2)
  have B1 := Aside0.mk (blk_below (blk_new w1 _) hb2)
  obtain ⟨⟨c0, c1, c2⟩, f0, f1, f2⟩ := three B0.out
  obtain ⟨⟨c10, c11, c12⟩, f10, f11, f12⟩ := three B1.out
  have z2 := blk_lt B1.out
  have z3 := blk_lt B0.out
  have HB := Aside0.mk (below_step (below_alloc HB.out _) hb2)
  clear hb2
  go_wp2_with (fail)
  refine (lighterref09_May.calls s h t true _ A3.out).mono ?_
  rintro e w3 ⟨rfl, hd3⟩
  have R1 := Aside0.mk (Kd.C_below (Kd.C_alloc R1.out _) hd3.below)
  have R2 := Aside0.mk (Kd.C_below (Kd.C_alloc R2.out _) hd3.below)
  have HB := Aside0.mk (below_step (below_alloc HB.out _) hd3.below)
  obtain ⟨n3, rfl⟩ := hd3
  go_wp2_with (fail)
  refine (lighterlaw09_awake.calls 10 true _ awake10).mono ?_
  rintro e w9 ⟨rfl, hb9⟩
  go_wp2_with (fail)
  go_ret
  exact ⟨rfl, below_step HB.out hb9⟩

set_option maxRecDepth 100000 in
set_option maxHeartbeats 800000 in
theorem turns_arg_range (s h t n : Int) (m : MayP s h t) (hs : s ≤ 300) (h0 : 0 ≤ n) (hn : 1099511627776 - h ≤ n) (hq : h - t < n) (w : World) :
    Calls Try.prog 3 #[.agg #[.int .i64 s, .int .i64 h, .int .i64 t], .int .i64 n] w fun e w' => e = .returned (.bool true) ∧ Below w.heap.size w w' := by
  have A1 := Aside0.mk (push_arg m (.inr hn) 3 (by omega))
  have A2 := Aside0.mk (pop_range m h0 hq 3 (by omega))
  have A3 := Aside0.mk (may_yes m)
  obtain ⟨m1, m2, m3, m4, m5, m6⟩ := m
  go_enter Try.func3, Try.ntmps3
  go_wp2_with (fail)
  refine (ring_Ring_Push.calls 3 s h t n _ _ _ _ _ _ A1.out).mono ?_
  rintro e w1 ⟨v1, rfl, ho1, hb1⟩
  obtain ⟨S1, k1, rfl, hk1, hr1⟩ := Kd.R_reads ho1
  have R1 := Aside0.mk hr1
  have Z1 := Aside0.mk hk1
  clear ho1 hr1 hk1
  have B0 := Aside0.mk (blk_below (blk_new w _) hb1)
  obtain ⟨⟨c0, c1, c2⟩, f0, f1, f2⟩ := three B0.out
  have z1 := blk_lt B0.out
  have HB := Aside0.mk (below_step (below_alloc (Below.refl w.heap.size w) _) hb1)
  clear hb1
  go_wp2_with (fail)
  refine (ring_Ring_Pop.calls 3 s h t n _ _ _ _ _ _ A2.out).mono ?_
  rintro e w2 ⟨v2, rfl, ho2, hb2⟩
  obtain ⟨S2, k2, rfl, hk2, hr2⟩ := Kd.R_reads ho2
  have R1 := Aside0.mk (Kd.C_below (Kd.C_alloc R1.out _) hb2)
  have R2 := Aside0.mk hr2
  have Z2 := Aside0.mk hk2
  clear ho2 hr2 hk2
  clear c0 c1 c2 f0 f1 f2
  have B0 := Aside0.mk (blk_below (blk_alloc B0.out _) hb2)
  have B1 := Aside0.mk (blk_below (blk_new w1 _) hb2)
  obtain ⟨⟨c0, c1, c2⟩, f0, f1, f2⟩ := three B0.out
  obtain ⟨⟨c10, c11, c12⟩, f10, f11, f12⟩ := three B1.out
  have z2 := blk_lt B1.out
  have z3 := blk_lt B0.out
  have HB := Aside0.mk (below_step (below_alloc HB.out _) hb2)
  clear hb2
  go_wp2_with (fail)
  refine (lighterref09_May.calls s h t true _ A3.out).mono ?_
  rintro e w3 ⟨rfl, hd3⟩
  have R1 := Aside0.mk (Kd.C_below (Kd.C_alloc R1.out _) hd3.below)
  have R2 := Aside0.mk (Kd.C_below (Kd.C_alloc R2.out _) hd3.below)
  have HB := Aside0.mk (below_step (below_alloc HB.out _) hd3.below)
  obtain ⟨n3, rfl⟩ := hd3
  go_wp2_with (fail)
  refine (lighterlaw09_awake.calls 10 true _ awake10).mono ?_
  rintro e w9 ⟨rfl, hb9⟩
  go_wp2_with (fail)
  go_ret
  exact ⟨rfl, below_step HB.out hb9⟩

set_option maxRecDepth 100000 in
set_option maxHeartbeats 800000 in
theorem turns_arg_ok (s h t n : Int) (m : MayP s h t) (hs : s ≤ 300) (h0 : 0 ≤ n) (hn : 1099511627776 - h ≤ n) (hq : n ≤ h - t) (w : World) :
    Calls Try.prog 3 #[.agg #[.int .i64 s, .int .i64 h, .int .i64 t], .int .i64 n] w fun e w' => e = .returned (.bool true) ∧ Below w.heap.size w w' := by
  have A1 := Aside0.mk (push_arg m (.inr hn) 3 (by omega))
  have A2 := Aside0.mk (pop_ok m h0 hq 3 (by omega))
  have A3 := Aside0.mk (may_yes m)
  obtain ⟨m1, m2, m3, m4, m5, m6⟩ := m
  have E2 := Aside0.mk (refat_is m1 m2 (show 0 ≤ t by omega) (by omega) h0 (by omega) 301 (by omega))
  have Y2 := Aside0.mk (same_self (spansL s t n) (by have := spansL_length s t n; omega) 3 (by have := spansL_length s t n; omega))
  go_enter Try.func3, Try.ntmps3
  go_wp2_with (fail)
  refine (ring_Ring_Push.calls 3 s h t n _ _ _ _ _ _ A1.out).mono ?_
  rintro e w1 ⟨v1, rfl, ho1, hb1⟩
  obtain ⟨S1, k1, rfl, hk1, hr1⟩ := Kd.R_reads ho1
  have R1 := Aside0.mk hr1
  have Z1 := Aside0.mk hk1
  clear ho1 hr1 hk1
  have B0 := Aside0.mk (blk_below (blk_new w _) hb1)
  obtain ⟨⟨c0, c1, c2⟩, f0, f1, f2⟩ := three B0.out
  have z1 := blk_lt B0.out
  have HB := Aside0.mk (below_step (below_alloc (Below.refl w.heap.size w) _) hb1)
  clear hb1
  go_wp2_with (fail)
  refine (ring_Ring_Pop.calls 3 s h t n _ _ _ _ _ _ A2.out).mono ?_
  rintro e w2 ⟨v2, rfl, ho2, hb2⟩
  obtain ⟨S2, k2, rfl, hk2, hr2⟩ := Kd.R_reads ho2
  have R1 := Aside0.mk (Kd.C_below (Kd.C_alloc R1.out _) hb2)
  have R2 := Aside0.mk hr2
  have Z2 := Aside0.mk hk2
  clear ho2 hr2 hk2
  clear c0 c1 c2 f0 f1 f2
  have B0 := Aside0.mk (blk_below (blk_alloc B0.out _) hb2)
  have B1 := Aside0.mk (blk_below (blk_new w1 _) hb2)
  obtain ⟨⟨c0, c1, c2⟩, f0, f1, f2⟩ := three B0.out
  obtain ⟨⟨c10, c11, c12⟩, f10, f11, f12⟩ := three B1.out
  have z2 := blk_lt B1.out
  have z3 := blk_lt B0.out
  have HB := Aside0.mk (below_step (below_alloc HB.out _) hb2)
  clear hb2
  go_wp2_with (fail)
  refine (lighterref09_May.calls s h t true _ A3.out).mono ?_
  rintro e w3 ⟨rfl, hd3⟩
  have R1 := Aside0.mk (Kd.C_below (Kd.C_alloc R1.out _) hd3.below)
  have R2 := Aside0.mk (Kd.C_below (Kd.C_alloc R2.out _) hd3.below)
  have HB := Aside0.mk (below_step (below_alloc HB.out _) hd3.below)
  obtain ⟨n3, rfl⟩ := hd3
  go_wp2_with (fail)
  refine (lighterref09_At.calls 301 s t n _ _ E2.out).mono ?_
  rintro e w5 ⟨v5, rfl, ho5, hb5⟩
  obtain ⟨S5, k5, rfl, hk5, hr5⟩ := Kd.R_reads ho5
  have R5 := Aside0.mk hr5
  have Z5 := Aside0.mk hk5
  clear ho5 hr5 hk5
  have R1 := Aside0.mk (Kd.C_below R1.out hb5)
  have R2 := Aside0.mk (Kd.C_below R2.out hb5)

  have HB := Aside0.mk (below_step HB.out hb5)
  clear hb5
  go_wp2_with (fail)
  refine (lighterref01_Same.calls 3 _ _ _ _ _ _ true _ R2.out Z2.out R5.out Z5.out Y2.out).mono ?_
  rintro e w6 ⟨rfl, hd6⟩
  have R1 := Aside0.mk (Kd.C_below R1.out hd6.below)
  have R2 := Aside0.mk (Kd.C_below R2.out hd6.below)
  have HB := Aside0.mk (below_step HB.out hd6.below)
  obtain ⟨n6, rfl⟩ := hd6
  clear R5 Z5
  go_wp2_with (fail)
  refine (lighterlaw09_awake.calls 10 true _ awake10).mono ?_
  rintro e w9 ⟨rfl, hb9⟩
  go_wp2_with (fail)
  go_ret
  exact ⟨rfl, below_step HB.out hb9⟩

set_option maxRecDepth 100000 in
set_option maxHeartbeats 800000 in
theorem turns_full_range (s h t n : Int) (m : MayP s h t) (hs : s ≤ 300) (h0 : 0 ≤ n) (hp1 : n < 1099511627776 - h) (hp2 : s - (h - t) < n) (hq : h - t < n) (w : World) :
    Calls Try.prog 3 #[.agg #[.int .i64 s, .int .i64 h, .int .i64 t], .int .i64 n] w fun e w' => e = .returned (.bool true) ∧ Below w.heap.size w w' := by
  have A1 := Aside0.mk (push_full m h0 hp1 hp2 3 (by omega))
  have A2 := Aside0.mk (pop_range m h0 hq 3 (by omega))
  have A3 := Aside0.mk (may_yes m)
  obtain ⟨m1, m2, m3, m4, m5, m6⟩ := m
  go_enter Try.func3, Try.ntmps3
  go_wp2_with (fail)
  refine (ring_Ring_Push.calls 3 s h t n _ _ _ _ _ _ A1.out).mono ?_
  rintro e w1 ⟨v1, rfl, ho1, hb1⟩
  obtain ⟨S1, k1, rfl, hk1, hr1⟩ := Kd.R_reads ho1
  have R1 := Aside0.mk hr1
  have Z1 := Aside0.mk hk1
  clear ho1 hr1 hk1
  have B0 := Aside0.mk (blk_below (blk_new w _) hb1)
  obtain ⟨⟨c0, c1, c2⟩, f0, f1, f2⟩ := three B0.out
  have z1 := blk_lt B0.out
  have HB := Aside0.mk (below_step (below_alloc (Below.refl w.heap.size w) _) hb1)
  clear hb1
  go_wp2_with (fail)
  refine (ring_Ring_Pop.calls 3 s h t n _ _ _ _ _ _ A2.out).mono ?_
  rintro e w2 ⟨v2, rfl, ho2, hb2⟩
  obtain ⟨S2, k2, rfl, hk2, hr2⟩ := Kd.R_reads ho2
  have R1 := Aside0.mk (Kd.C_below (Kd.C_alloc R1.out _) hb2)
  have R2 := Aside0.mk hr2
  have Z2 := Aside0.mk hk2
  clear ho2 hr2 hk2
  clear c0 c1 c2 f0 f1 f2
  have B0 := Aside0.mk (blk_below (blk_alloc B0.out _) hb2)
  have B1 := Aside0.mk (blk_below (blk_new w1 _) hb2)
  obtain ⟨⟨c0, c1, c2⟩, f0, f1, f2⟩ := three B0.out
  obtain ⟨⟨c10, c11, c12⟩, f10, f11, f12⟩ := three B1.out
  have z2 := blk_lt B1.out
  have z3 := blk_lt B0.out
  have HB := Aside0.mk (below_step (below_alloc HB.out _) hb2)
  clear hb2
  go_wp2_with (fail)
  refine (lighterref09_May.calls s h t true _ A3.out).mono ?_
  rintro e w3 ⟨rfl, hd3⟩
  have R1 := Aside0.mk (Kd.C_below (Kd.C_alloc R1.out _) hd3.below)
  have R2 := Aside0.mk (Kd.C_below (Kd.C_alloc R2.out _) hd3.below)
  have HB := Aside0.mk (below_step (below_alloc HB.out _) hd3.below)
  obtain ⟨n3, rfl⟩ := hd3
  go_wp2_with (fail)
  refine (lighterlaw09_awake.calls 10 true _ awake10).mono ?_
  rintro e w9 ⟨rfl, hb9⟩
  go_wp2_with (fail)
  go_ret
  exact ⟨rfl, below_step HB.out hb9⟩

set_option maxRecDepth 100000 in
set_option maxHeartbeats 800000 in
theorem turns_full_ok (s h t n : Int) (m : MayP s h t) (hs : s ≤ 300) (h0 : 0 ≤ n) (hp1 : n < 1099511627776 - h) (hp2 : s - (h - t) < n) (hq : n ≤ h - t) (w : World) :
    Calls Try.prog 3 #[.agg #[.int .i64 s, .int .i64 h, .int .i64 t], .int .i64 n] w fun e w' => e = .returned (.bool true) ∧ Below w.heap.size w w' := by
  have A1 := Aside0.mk (push_full m h0 hp1 hp2 3 (by omega))
  have A2 := Aside0.mk (pop_ok m h0 hq 3 (by omega))
  have A3 := Aside0.mk (may_yes m)
  obtain ⟨m1, m2, m3, m4, m5, m6⟩ := m
  have E2 := Aside0.mk (refat_is m1 m2 (show 0 ≤ t by omega) (by omega) h0 (by omega) 301 (by omega))
  have Y2 := Aside0.mk (same_self (spansL s t n) (by have := spansL_length s t n; omega) 3 (by have := spansL_length s t n; omega))
  go_enter Try.func3, Try.ntmps3
  go_wp2_with (fail)
  refine (ring_Ring_Push.calls 3 s h t n _ _ _ _ _ _ A1.out).mono ?_
  rintro e w1 ⟨v1, rfl, ho1, hb1⟩
  obtain ⟨S1, k1, rfl, hk1, hr1⟩ := Kd.R_reads ho1
  have R1 := Aside0.mk hr1
  have Z1 := Aside0.mk hk1
  clear ho1 hr1 hk1
  have B0 := Aside0.mk (blk_below (blk_new w _) hb1)
  obtain ⟨⟨c0, c1, c2⟩, f0, f1, f2⟩ := three B0.out
  have z1 := blk_lt B0.out
  have HB := Aside0.mk (below_step (below_alloc (Below.refl w.heap.size w) _) hb1)
  clear hb1
  go_wp2_with (fail)
  refine (ring_Ring_Pop.calls 3 s h t n _ _ _ _ _ _ A2.out).mono ?_
  rintro e w2 ⟨v2, rfl, ho2, hb2⟩
  obtain ⟨S2, k2, rfl, hk2, hr2⟩ := Kd.R_reads ho2
  have R1 := Aside0.mk (Kd.C_below (Kd.C_alloc R1.out _) hb2)
  have R2 := Aside0.mk hr2
  have Z2 := Aside0.mk hk2
  clear ho2 hr2 hk2
  clear c0 c1 c2 f0 f1 f2
  have B0 := Aside0.mk (blk_below (blk_alloc B0.out _) hb2)
  have B1 := Aside0.mk (blk_below (blk_new w1 _) hb2)
  obtain ⟨⟨c0, c1, c2⟩, f0, f1, f2⟩ := three B0.out
  obtain ⟨⟨c10, c11, c12⟩, f10, f11, f12⟩ := three B1.out
  have z2 := blk_lt B1.out
  have z3 := blk_lt B0.out
  have HB := Aside0.mk (below_step (below_alloc HB.out _) hb2)
  clear hb2
  go_wp2_with (fail)
  refine (lighterref09_May.calls s h t true _ A3.out).mono ?_
  rintro e w3 ⟨rfl, hd3⟩
  have R1 := Aside0.mk (Kd.C_below (Kd.C_alloc R1.out _) hd3.below)
  have R2 := Aside0.mk (Kd.C_below (Kd.C_alloc R2.out _) hd3.below)
  have HB := Aside0.mk (below_step (below_alloc HB.out _) hd3.below)
  obtain ⟨n3, rfl⟩ := hd3
  go_wp2_with (fail)
  refine (lighterref09_At.calls 301 s t n _ _ E2.out).mono ?_
  rintro e w5 ⟨v5, rfl, ho5, hb5⟩
  obtain ⟨S5, k5, rfl, hk5, hr5⟩ := Kd.R_reads ho5
  have R5 := Aside0.mk hr5
  have Z5 := Aside0.mk hk5
  clear ho5 hr5 hk5
  have R1 := Aside0.mk (Kd.C_below R1.out hb5)
  have R2 := Aside0.mk (Kd.C_below R2.out hb5)

  have HB := Aside0.mk (below_step HB.out hb5)
  clear hb5
  go_wp2_with (fail)
  refine (lighterref01_Same.calls 3 _ _ _ _ _ _ true _ R2.out Z2.out R5.out Z5.out Y2.out).mono ?_
  rintro e w6 ⟨rfl, hd6⟩
  have R1 := Aside0.mk (Kd.C_below R1.out hd6.below)
  have R2 := Aside0.mk (Kd.C_below R2.out hd6.below)
  have HB := Aside0.mk (below_step HB.out hd6.below)
  obtain ⟨n6, rfl⟩ := hd6
  clear R5 Z5
  go_wp2_with (fail)
  refine (lighterlaw09_awake.calls 10 true _ awake10).mono ?_
  rintro e w9 ⟨rfl, hb9⟩
  go_wp2_with (fail)
  go_ret
  exact ⟨rfl, below_step HB.out hb9⟩

set_option maxRecDepth 100000 in
set_option maxHeartbeats 800000 in
theorem turns_ok_range (s h t n : Int) (m : MayP s h t) (hs : s ≤ 300) (h0 : 0 ≤ n) (hp1 : n < 1099511627776 - h) (hp2 : n ≤ s - (h - t)) (hq : h - t < n) (w : World) :
    Calls Try.prog 3 #[.agg #[.int .i64 s, .int .i64 h, .int .i64 t], .int .i64 n] w fun e w' => e = .returned (.bool true) ∧ Below w.heap.size w w' := by
  have A1 := Aside0.mk (push_ok m h0 hp1 hp2 3 (by omega))
  have A2 := Aside0.mk (pop_range m h0 hq 3 (by omega))
  have A3 := Aside0.mk (may_yes m)
  obtain ⟨m1, m2, m3, m4, m5, m6⟩ := m
  have E1 := Aside0.mk (refat_is m1 m2 (show 0 ≤ h by omega) (by omega) h0 (by omega) 301 (by omega))
  have Y1 := Aside0.mk (same_self (spansL s h n) (by have := spansL_length s h n; omega) 3 (by have := spansL_length s h n; omega))
  go_enter Try.func3, Try.ntmps3
  go_wp2_with (fail)
  refine (ring_Ring_Push.calls 3 s h t n _ _ _ _ _ _ A1.out).mono ?_
  rintro e w1 ⟨v1, rfl, ho1, hb1⟩
  obtain ⟨S1, k1, rfl, hk1, hr1⟩ := Kd.R_reads ho1
  have R1 := Aside0.mk hr1
  have Z1 := Aside0.mk hk1
  clear ho1 hr1 hk1
  have B0 := Aside0.mk (blk_below (blk_new w _) hb1)
  obtain ⟨⟨c0, c1, c2⟩, f0, f1, f2⟩ := three B0.out
  have z1 := blk_lt B0.out
  have HB := Aside0.mk (below_step (below_alloc (Below.refl w.heap.size w) _) hb1)
  clear hb1
  go_wp2_with (fail)
  refine (ring_Ring_Pop.calls 3 s h t n _ _ _ _ _ _ A2.out).mono ?_
  rintro e w2 ⟨v2, rfl, ho2, hb2⟩
  obtain ⟨S2, k2, rfl, hk2, hr2⟩ := Kd.R_reads ho2
  have R1 := Aside0.mk (Kd.C_below (Kd.C_alloc R1.out _) hb2)
  have R2 := Aside0.mk hr2
  have Z2 := Aside0.mk hk2
  clear ho2 hr2 hk2
  clear c0 c1 c2 f0 f1 f2
  have B0 := Aside0.mk (blk_below (blk_alloc B0.out _) hb2)
  have B1 := Aside0.mk (blk_below (blk_new w1 _) hb2)
  obtain ⟨⟨c0, c1, c2⟩, f0, f1, f2⟩ := three B0.out
  obtain ⟨⟨c10, c11, c12⟩, f10, f11, f12⟩ := three B1.out
  have z2 := blk_lt B1.out
  have z3 := blk_lt B0.out
  have HB := Aside0.mk (below_step (below_alloc HB.out _) hb2)
  clear hb2
  go_wp2_with (fail)
  refine (lighterref09_May.calls s h t true _ A3.out).mono ?_
  rintro e w3 ⟨rfl, hd3⟩
  have R1 := Aside0.mk (Kd.C_below (Kd.C_alloc R1.out _) hd3.below)
  have R2 := Aside0.mk (Kd.C_below (Kd.C_alloc R2.out _) hd3.below)
  have HB := Aside0.mk (below_step (below_alloc HB.out _) hd3.below)
  obtain ⟨n3, rfl⟩ := hd3
  go_wp2_with (fail)
  refine (lighterref09_At.calls 301 s h n _ _ E1.out).mono ?_
  rintro e w5 ⟨v5, rfl, ho5, hb5⟩
  obtain ⟨S5, k5, rfl, hk5, hr5⟩ := Kd.R_reads ho5
  have R5 := Aside0.mk hr5
  have Z5 := Aside0.mk hk5
  clear ho5 hr5 hk5
  have R1 := Aside0.mk (Kd.C_below R1.out hb5)
  have R2 := Aside0.mk (Kd.C_below R2.out hb5)
  clear c0 c1 c2 f0 f1 f2 c10 c11 c12 f10 f11 f12 z2 z3
  have B0 := Aside0.mk (blk_below (blk_drewN (blk_alloc B0.out _) n3) hb5)
  have B1 := Aside0.mk (blk_below (blk_drewN (blk_alloc B1.out _) n3) hb5)
  have B2 := Aside0.mk (blk_below (blk_drewN (blk_new w2 _) n3) hb5)
  obtain ⟨⟨c0, c1, c2⟩, f0, f1, f2⟩ := three B0.out
  obtain ⟨⟨c10, c11, c12⟩, f10, f11, f12⟩ := three B1.out
  obtain ⟨⟨c20, c21, c22⟩, f20, f21, f22⟩ := three B2.out
  have z2 := blk_lt B1.out
  have z3 := blk_lt B0.out
  have z4 := blk_lt B2.out
  have HB := Aside0.mk (below_step HB.out hb5)
  clear hb5
  go_wp2_with (fail)
  refine (lighterref01_Same.calls 3 _ _ _ _ _ _ true _ R1.out Z1.out R5.out Z5.out Y1.out).mono ?_
  rintro e w6 ⟨rfl, hd6⟩
  have R1 := Aside0.mk (Kd.C_below R1.out hd6.below)
  have R2 := Aside0.mk (Kd.C_below R2.out hd6.below)
  have HB := Aside0.mk (below_step HB.out hd6.below)
  obtain ⟨n6, rfl⟩ := hd6
  clear R5 Z5
  go_wp2_with (fail)
  refine (lighterlaw09_awake.calls 10 true _ awake10).mono ?_
  rintro e w9 ⟨rfl, hb9⟩
  go_wp2_with (fail)
  go_ret
  exact ⟨rfl, below_step HB.out hb9⟩

set_option maxRecDepth 100000 in
set_option maxHeartbeats 800000 in
theorem turns_ok_ok (s h t n : Int) (m : MayP s h t) (hs : s ≤ 300) (h0 : 0 ≤ n) (hp1 : n < 1099511627776 - h) (hp2 : n ≤ s - (h - t)) (hq : n ≤ h - t) (w : World) :
    Calls Try.prog 3 #[.agg #[.int .i64 s, .int .i64 h, .int .i64 t], .int .i64 n] w fun e w' => e = .returned (.bool true) ∧ Below w.heap.size w w' := by
  have A1 := Aside0.mk (push_ok m h0 hp1 hp2 3 (by omega))
  have A2 := Aside0.mk (pop_ok m h0 hq 3 (by omega))
  have A3 := Aside0.mk (may_yes m)
  obtain ⟨m1, m2, m3, m4, m5, m6⟩ := m
  have E1 := Aside0.mk (refat_is m1 m2 (show 0 ≤ h by omega) (by omega) h0 (by omega) 301 (by omega))
  have Y1 := Aside0.mk (same_self (spansL s h n) (by have := spansL_length s h n; omega) 3 (by have := spansL_length s h n; omega))
  have E2 := Aside0.mk (refat_is m1 m2 (show 0 ≤ t by omega) (by omega) h0 (by omega) 301 (by omega))
  have Y2 := Aside0.mk (same_self (spansL s t n) (by have := spansL_length s t n; omega) 3 (by have := spansL_length s t n; omega))
  go_enter Try.func3, Try.ntmps3
  go_wp2_with (fail)
  refine (ring_Ring_Push.calls 3 s h t n _ _ _ _ _ _ A1.out).mono ?_
  rintro e w1 ⟨v1, rfl, ho1, hb1⟩
  obtain ⟨S1, k1, rfl, hk1, hr1⟩ := Kd.R_reads ho1
  have R1 := Aside0.mk hr1
  have Z1 := Aside0.mk hk1
  clear ho1 hr1 hk1
  have B0 := Aside0.mk (blk_below (blk_new w _) hb1)
  obtain ⟨⟨c0, c1, c2⟩, f0, f1, f2⟩ := three B0.out
  have z1 := blk_lt B0.out
  have HB := Aside0.mk (below_step (below_alloc (Below.refl w.heap.size w) _) hb1)
  clear hb1
  go_wp2_with (fail)
  refine (ring_Ring_Pop.calls 3 s h t n _ _ _ _ _ _ A2.out).mono ?_
  rintro e w2 ⟨v2, rfl, ho2, hb2⟩
  obtain ⟨S2, k2, rfl, hk2, hr2⟩ := Kd.R_reads ho2
  have R1 := Aside0.mk (Kd.C_below (Kd.C_alloc R1.out _) hb2)
  have R2 := Aside0.mk hr2
  have Z2 := Aside0.mk hk2
  clear ho2 hr2 hk2
  clear c0 c1 c2 f0 f1 f2
  have B0 := Aside0.mk (blk_below (blk_alloc B0.out _) hb2)
  have B1 := Aside0.mk (blk_below (blk_new w1 _) hb2)
  obtain ⟨⟨c0, c1, c2⟩, f0, f1, f2⟩ := three B0.out
  obtain ⟨⟨c10, c11, c12⟩, f10, f11, f12⟩ := three B1.out
  have z2 := blk_lt B1.out
  have z3 := blk_lt B0.out
  have HB := Aside0.mk (below_step (below_alloc HB.out _) hb2)
  clear hb2
  go_wp2_with (fail)
  refine (lighterref09_May.calls s h t true _ A3.out).mono ?_
  rintro e w3 ⟨rfl, hd3⟩
  have R1 := Aside0.mk (Kd.C_below (Kd.C_alloc R1.out _) hd3.below)
  have R2 := Aside0.mk (Kd.C_below (Kd.C_alloc R2.out _) hd3.below)
  have HB := Aside0.mk (below_step (below_alloc HB.out _) hd3.below)
  obtain ⟨n3, rfl⟩ := hd3
  go_wp2_with (fail)
  refine (lighterref09_At.calls 301 s h n _ _ E1.out).mono ?_
  rintro e w5 ⟨v5, rfl, ho5, hb5⟩
  obtain ⟨S5, k5, rfl, hk5, hr5⟩ := Kd.R_reads ho5
  have R5 := Aside0.mk hr5
  have Z5 := Aside0.mk hk5
  clear ho5 hr5 hk5
  have R1 := Aside0.mk (Kd.C_below R1.out hb5)
  have R2 := Aside0.mk (Kd.C_below R2.out hb5)
  clear c0 c1 c2 f0 f1 f2 c10 c11 c12 f10 f11 f12 z2 z3
  have B0 := Aside0.mk (blk_below (blk_drewN (blk_alloc B0.out _) n3) hb5)
  have B1 := Aside0.mk (blk_below (blk_drewN (blk_alloc B1.out _) n3) hb5)
  have B2 := Aside0.mk (blk_below (blk_drewN (blk_new w2 _) n3) hb5)
  obtain ⟨⟨c0, c1, c2⟩, f0, f1, f2⟩ := three B0.out
  obtain ⟨⟨c10, c11, c12⟩, f10, f11, f12⟩ := three B1.out
  obtain ⟨⟨c20, c21, c22⟩, f20, f21, f22⟩ := three B2.out
  have z2 := blk_lt B1.out
  have z3 := blk_lt B0.out
  have z4 := blk_lt B2.out
  have HB := Aside0.mk (below_step HB.out hb5)
  clear hb5
  go_wp2_with (fail)
  refine (lighterref01_Same.calls 3 _ _ _ _ _ _ true _ R1.out Z1.out R5.out Z5.out Y1.out).mono ?_
  rintro e w6 ⟨rfl, hd6⟩
  have R1 := Aside0.mk (Kd.C_below R1.out hd6.below)
  have R2 := Aside0.mk (Kd.C_below R2.out hd6.below)
  have HB := Aside0.mk (below_step HB.out hd6.below)
  obtain ⟨n6, rfl⟩ := hd6
  clear R5 Z5
  go_wp2_with (fail)
  refine (lighterref09_At.calls 301 s t n _ _ E2.out).mono ?_
  rintro e w5 ⟨v5, rfl, ho5, hb5⟩
  obtain ⟨S5, k5, rfl, hk5, hr5⟩ := Kd.R_reads ho5
  have R5 := Aside0.mk hr5
  have Z5 := Aside0.mk hk5
  clear ho5 hr5 hk5
  have R1 := Aside0.mk (Kd.C_below R1.out hb5)
  have R2 := Aside0.mk (Kd.C_below R2.out hb5)

  have HB := Aside0.mk (below_step HB.out hb5)
  clear hb5
  go_wp2_with (fail)
  refine (lighterref01_Same.calls 3 _ _ _ _ _ _ true _ R2.out Z2.out R5.out Z5.out Y2.out).mono ?_
  rintro e w6 ⟨rfl, hd6⟩
  have R1 := Aside0.mk (Kd.C_below R1.out hd6.below)
  have R2 := Aside0.mk (Kd.C_below R2.out hd6.below)
  have HB := Aside0.mk (below_step HB.out hd6.below)
  obtain ⟨n6, rfl⟩ := hd6
  clear R5 Z5
  go_wp2_with (fail)
  refine (lighterlaw09_awake.calls 10 true _ awake10).mono ?_
  rintro e w9 ⟨rfl, hb9⟩
  go_wp2_with (fail)
  go_ret
  exact ⟨rfl, below_step HB.out hb9⟩

set_option maxRecDepth 100000 in
set_option maxHeartbeats 800000 in
theorem turns_low (s h t n : Int) (m : MayP s h t) (hs : s ≤ 300) (h0 : n < 0) (w : World) :
    Calls Try.prog 3 #[.agg #[.int .i64 s, .int .i64 h, .int .i64 t], .int .i64 n] w fun e w' => e = .returned (.bool true) ∧ Below w.heap.size w w' := by
  have A1 := Aside0.mk (push_arg m (.inl h0) 3 (by omega))
  have A2 := Aside0.mk (pop_arg m h0 3 (by omega))
  have A3 := Aside0.mk (may_yes m)
  obtain ⟨m1, m2, m3, m4, m5, m6⟩ := m
  go_enter Try.func3, Try.ntmps3
  go_wp2_with (fail)
  refine (ring_Ring_Push.calls 3 s h t n _ _ _ _ _ _ A1.out).mono ?_
  rintro e w1 ⟨v1, rfl, ho1, hb1⟩
  obtain ⟨S1, k1, rfl, hk1, hr1⟩ := Kd.R_reads ho1
  have R1 := Aside0.mk hr1
  have Z1 := Aside0.mk hk1
  clear ho1 hr1 hk1
  have B0 := Aside0.mk (blk_below (blk_new w _) hb1)
  obtain ⟨⟨c0, c1, c2⟩, f0, f1, f2⟩ := three B0.out
  have z1 := blk_lt B0.out
  have HB := Aside0.mk (below_step (below_alloc (Below.refl w.heap.size w) _) hb1)
  clear hb1
  go_wp2_with (fail)
  refine (ring_Ring_Pop.calls 3 s h t n _ _ _ _ _ _ A2.out).mono ?_
  rintro e w2 ⟨v2, rfl, ho2, hb2⟩
  obtain ⟨S2, k2, rfl, hk2, hr2⟩ := Kd.R_reads ho2
  have R1 := Aside0.mk (Kd.C_below (Kd.C_alloc R1.out _) hb2)
  have R2 := Aside0.mk hr2
  have Z2 := Aside0.mk hk2
  clear ho2 hr2 hk2
  clear c0 c1 c2 f0 f1 f2
  have B0 := Aside0.mk (blk_below (blk_alloc B0.out _) hb2)
  have B1 := Aside0.mk (blk_below (blk_new w1 _) hb2)
  obtain ⟨⟨c0, c1, c2⟩, f0, f1, f2⟩ := three B0.out
  obtain ⟨⟨c10, c11, c12⟩, f10, f11, f12⟩ := three B1.out
  have z2 := blk_lt B1.out
  have z3 := blk_lt B0.out
  have HB := Aside0.mk (below_step (below_alloc HB.out _) hb2)
  clear hb2
  go_wp2_with (fail)
  refine (lighterref09_May.calls s h t true _ A3.out).mono ?_
  rintro e w3 ⟨rfl, hd3⟩
  have R1 := Aside0.mk (Kd.C_below (Kd.C_alloc R1.out _) hd3.below)
  have R2 := Aside0.mk (Kd.C_below (Kd.C_alloc R2.out _) hd3.below)
  have HB := Aside0.mk (below_step (below_alloc HB.out _) hd3.below)
  obtain ⟨n3, rfl⟩ := hd3
  go_wp2_with (fail)
  refine (lighterlaw09_awake.calls 10 true _ awake10).mono ?_
  rintro e w9 ⟨rfl, hb9⟩
  go_wp2_with (fail)
  go_ret
  exact ⟨rfl, below_step HB.out hb9⟩

theorem turns_walk (s h t n : Int) (w : World) :
    Calls Try.prog 3 #[.agg #[.int .i64 s, .int .i64 h, .int .i64 t], .int .i64 n] w fun e w' => e = .returned (.bool true) ∧ Below w.heap.size w w' := by
  by_cases m : MayP s h t
  · by_cases hs : s ≤ 300
    · by_cases h0 : n < 0
      · exact turns_low s h t n m hs h0 w
      · by_cases q : n ≤ h - t
        · by_cases p1 : 1099511627776 - h ≤ n
          · exact turns_arg_ok s h t n m hs (by omega) p1 q w
          · by_cases p2 : n ≤ s - (h - t)
            · exact turns_ok_ok s h t n m hs (by omega) (by omega) p2 q w
            · exact turns_full_ok s h t n m hs (by omega) (by omega) (by omega) q w
        · by_cases p1 : 1099511627776 - h ≤ n
          · exact turns_arg_range s h t n m hs (by omega) p1 (by omega) w
          · by_cases p2 : n ≤ s - (h - t)
            · exact turns_ok_range s h t n m hs (by omega) (by omega) p2 (by omega) w
            · exact turns_full_range s h t n m hs (by omega) (by omega) (by omega) (by omega) w
    · have a1 : ∃ r1 r2 r3 L1 r4, ring_Ring_Push.f 3 s h t n = some (r1, r2, r3, L1, r4) := by
        by_cases a : n < 0 ∨ 1099511627776 - h ≤ n
        · exact ⟨_, _, _, _, _, push_arg m a 3 (by omega)⟩
        · by_cases b : s - (h - t) < n
          · exact ⟨_, _, _, _, _, push_full m (by omega) (by omega) b 3 (by omega)⟩
          · exact ⟨_, _, _, _, _, push_ok m (by omega) (by omega) (by omega) 3 (by omega)⟩
      have a2 : ∃ e1 e2 e3 L2 e4, ring_Ring_Pop.f 3 s h t n = some (e1, e2, e3, L2, e4) := by
        by_cases a : n < 0
        · exact ⟨_, _, _, _, _, pop_arg m a 3 (by omega)⟩
        · by_cases b : h - t < n
          · exact ⟨_, _, _, _, _, pop_range m (by omega) b 3 (by omega)⟩
          · exact ⟨_, _, _, _, _, pop_ok m (by omega) (by omega) 3 (by omega)⟩
      obtain ⟨r1, r2, r3, L1, r4, a1⟩ := a1
      obtain ⟨e1, e2, e3, L2, e4, a2⟩ := a2
      exact turns_great s h t n m (by omega) L1 L2 r1 r2 r3 r4 e1 e2 e3 e4 a1 a2 w
  · exact turns_no s h t n m w

end Go.Proofs.Ytkbohbelmgmlnaa.PRingAsks
