/- RingBack's ways that look at nothing, and all ways joined. Conditions: what each theorem says. -/
import Derived.Test.YtkbohbelmgmlnaaBack2
namespace Go.Proofs.Ytkbohbelmgmlnaa.PRingAsks
open Go.RowKit Go.Proofs.YtkbohbelmgmlnaaW.PrintWords Go.Proofs.YtkbohbelmgmlnaaW.PrintLast Go.Proofs.YtkbohbelmgmlnaaW.PrintMore
set_option linter.unusedVariables false
set_option linter.unusedSimpArgs false
set_option maxRecDepth 100000 in
theorem back_low (s r0 : Int) (e0 : Int) (A : Option Addr) (n c : Nat) (w : World) (h : s < 1) (AF : Aside0 (ring_New.f 3 s = some (r0, 0, 0, e0))) :
    Calls Try.prog 7 #[.int .i64 s, .slice A n c] w fun e w' => e = .returned (.bool true) ∧ Below w.heap.size w w' := by
  go_enter Try.func7, Try.ntmps7
  go_wp2_with (fail)
  refine (ring_New.calls 3 s _ _ _ _ _ AF.out).mono ?_
  rintro e w2 ⟨rfl, hb2⟩
  have HB := Aside0.mk (below_alloc hb2 (.cells #[.int .i64 r0, .int .i64 0, .int .i64 0] 23))
  clear hb2
  go_wp2_with (fail)
  generalize (w2.alloc (.cells #[.int .i64 r0, .int .i64 0, .int .i64 0] 23)) = w3 at HB ⊢
  refine (lighterlaw09_awake.calls 10 true _ awake10).mono ?_
  rintro e w4 ⟨rfl, hb4⟩
  have HB := Aside0.mk (below_step HB.out hb4)
  clear hb4
  go_wp2_with (fail)
  go_ret
  exact ⟨rfl, HB.out⟩
set_option maxRecDepth 100000 in
theorem back_high (s r0 : Int) (e0 : Int) (A : Option Addr) (n c : Nat) (w : World) (h : 300 < s) (AF : Aside0 (ring_New.f 3 s = some (r0, 0, 0, e0))) :
    Calls Try.prog 7 #[.int .i64 s, .slice A n c] w fun e w' => e = .returned (.bool true) ∧ Below w.heap.size w w' := by
  have h1 : ¬ (s < 1) := by omega
  go_enter Try.func7, Try.ntmps7
  go_wp2_with (fail)
  refine (ring_New.calls 3 s _ _ _ _ _ AF.out).mono ?_
  rintro e w2 ⟨rfl, hb2⟩
  have HB := Aside0.mk (below_alloc hb2 (.cells #[.int .i64 r0, .int .i64 0, .int .i64 0] 23))
  clear hb2
  go_wp2_with (fail)
  generalize (w2.alloc (.cells #[.int .i64 r0, .int .i64 0, .int .i64 0] 23)) = w3 at HB ⊢
  refine (lighterlaw09_awake.calls 10 true _ awake10).mono ?_
  rintro e w4 ⟨rfl, hb4⟩
  have HB := Aside0.mk (below_step HB.out hb4)
  clear hb4
  go_wp2_with (fail)
  go_ret
  exact ⟨rfl, HB.out⟩
set_option maxRecDepth 100000 in
theorem back_long (s r0 : Int) (e0 : Int) (A : Option Addr) (n c : Nat) (w : World) (h1 : ¬ s < 1) (h2 : ¬ 300 < s) (hn : 60 < n) (AF : Aside0 (ring_New.f 3 s = some (r0, 0, 0, e0))) :
    Calls Try.prog 7 #[.int .i64 s, .slice A n c] w fun e w' => e = .returned (.bool true) ∧ Below w.heap.size w w' := by
  go_enter Try.func7, Try.ntmps7
  go_wp2_with (fail)
  refine (ring_New.calls 3 s _ _ _ _ _ AF.out).mono ?_
  rintro e w2 ⟨rfl, hb2⟩
  have HB := Aside0.mk (below_alloc hb2 (.cells #[.int .i64 r0, .int .i64 0, .int .i64 0] 23))
  clear hb2
  go_wp2_with (fail)
  generalize (w2.alloc (.cells #[.int .i64 r0, .int .i64 0, .int .i64 0] 23)) = w3 at HB ⊢
  refine (lighterlaw09_awake.calls 10 true _ awake10).mono ?_
  rintro e w4 ⟨rfl, hb4⟩
  have HB := Aside0.mk (below_step HB.out hb4)
  clear hb4
  go_wp2_with (fail)
  go_ret
  exact ⟨rfl, HB.out⟩
theorem back_walk (s : Int) (A : Option Addr) (c : Nat) (l : List Int) (w : World) (hr : ReadsInt w .i64 A l.length l) : Calls Try.prog 7 #[.int .i64 s, .slice A l.length c] w fun e w' => e = .returned (.bool true) ∧ Below w.heap.size w w' := by
  by_cases h1 : s < 1
  · exact back_low s _ _ A _ c w h1 ⟨new_no (by omega) 3 (by omega)⟩
  · by_cases h2 : 300 < s
    · by_cases h3 : s ≤ 65536
      · exact back_high s _ _ A _ c w h2 ⟨new_yes (by omega) h3 3 (by omega)⟩
      · exact back_high s _ _ A _ c w h2 ⟨new_no (by omega) 3 (by omega)⟩
    · by_cases h3 : 60 < l.length
      · exact back_long s _ _ A _ c w h1 h2 h3 ⟨new_yes (by omega) (by omega) 3 (by omega)⟩
      · exact back_mid s A c l (by omega) (by omega) (by omega) w hr
end Go.Proofs.Ytkbohbelmgmlnaa.PRingAsks
