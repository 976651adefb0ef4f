/- The walk of RingAsks, some of its ways (printed by a program of this session, wip/ring/asks.py). Conditions: what each theorem says. -/
import Derived.Test.YtkbohbelmgmlnaaWalkRingAsks1
import Derived.Test.YtkbohbelmgmlnaaWalkRingAsks2
import Derived.Test.YtkbohbelmgmlnaaWalkRingAsks3
import Derived.Test.YtkbohbelmgmlnaaWalkRingAsks4
namespace Go.Proofs.Ytkbohbelmgmlnaa.PRingAsks
open Go.RowKit Go.Proofs.YtkbohbelmgmlnaaW.PrintWords Go.Proofs.YtkbohbelmgmlnaaW.PrintLast Go.Proofs.YtkbohbelmgmlnaaW.PrintMore
attribute [local go_sem high] eqA23
set_option linter.unusedVariables false
set_option linter.unusedSimpArgs false

theorem asks_walk (s h t pos n : Int) (w : World) :
    Calls Try.prog 6 #[.agg #[.int .i64 s, .int .i64 h, .int .i64 t], .int .i64 pos, .int .i64 n] w fun e w' => e = .returned (.bool true) ∧ Below w.heap.size w w' := by
  by_cases m : MayP s h t
  · by_cases hs : s ≤ 300
    · have m' := m
      obtain ⟨m1, m2, m3, m4, m5, m6⟩ := m'
      by_cases a : n < 0
      · by_cases b : pos < 0
        · exact asks_a1 s h t pos n m hs a b w
        · exact asks_a2 s h t pos n m hs a (by omega) w
      · have a' : 0 ≤ n := by omega
        by_cases b : pos < t
        · by_cases c : pos < 0
          · exact asks_b1 s h t pos n m hs a' b c w
          · by_cases d : s < n
            · exact asks_b2 s h t pos n m hs a' b (by omega) d w
            · exact asks_b3 s h t pos n m hs a' b (by omega) (by omega) w
        · have b' : t ≤ pos := by omega
          by_cases c : h < pos
          · by_cases d : s < n
            · exact asks_c1 s h t pos n m hs a' b' c (by omega) d w
            · by_cases e : 1099511627776 ≤ pos
              · exact asks_c2 s h t pos n m hs a' b' c (by omega) (by omega) e w
              · exact asks_c3 s h t pos n m hs a' b' c (by omega) (by omega) (by omega) w
          · have c' : pos ≤ h := by omega
            by_cases e : h - pos < n
            · by_cases d : s < n
              · exact asks_d1 s h t pos n m hs a' b' c' e (by omega) d w
              · exact asks_d2 s h t pos n m hs a' b' c' e (by omega) (by omega) (by omega) w
            · exact asks_e1 s h t pos n m hs a' b' c' (by omega) (by omega) (by omega) (by omega) w
    · by_cases q : pos < 0 ∨ n < 0 ∨ s < n ∨ 1099511627776 ≤ pos
      · exact asks_great s h t pos n m (by omega) _ _ (at_arg m q 3 (by omega)) w
      · exact asks_great s h t pos n m (by omega) _ _ (at_ok m (by omega) (by omega) (by omega) (by omega) 3 (by omega)) w
  · by_cases c : 1 ≤ s ∧ s ≤ 65536
    · exact asks_no_yes s h t pos n m c w
    · exact asks_no_no s h t pos n m c w

end Go.Proofs.Ytkbohbelmgmlnaa.PRingAsks
