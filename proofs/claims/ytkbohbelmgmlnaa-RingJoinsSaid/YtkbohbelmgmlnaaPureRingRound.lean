/- RingRound, the plain law: positions that are Size apart stand for the same sectors, and all positions of a round are all sectors. No condition. -/
import Derived.Test.YtkbohbelmgmlnaaPRingRoundx7
import Derived.Test.YtkbohbelmgmlnaaRLRingRound
namespace Go.Proofs.Ytkbohbelmgmlnaa.PRingRound
open Go.RowKit Go.Proofs.YtkbohbelmgmlnaaW.PrintWords Go.Proofs.YtkbohbelmgmlnaaW.PrintLast Go.Proofs.YtkbohbelmgmlnaaW.PrintMore
set_option linter.unusedVariables false
set_option linter.unusedSimpArgs false

theorem at_ok {s h t pos n : Int} (m : MayP s h t) (p0 : 0 ≤ pos) (p1 : pos < 1099511627776) (n0 : 0 ≤ n) (n1 : n ≤ s) (k : Nat) (hk : 2 ≤ k) :
    ring_Ring_At.f k s h t pos n = some (spansL s pos n, 0) := by
  unfold ring_Ring_At.f
  rw [check_yes m k hk]
  obtain ⟨m1, m2, m3, m4, m5, m6⟩ := m
  simp only [Option.bind_some]
  rw [if_pos trivial, if_neg (by omega), if_neg (by omega), if_neg (by omega), if_neg (by omega), spans_is m1 m2 p0 n0 n1]
  rfl

theorem size_spans {s pos n : Int} (h1 : 1 ≤ s) (h2 : s ≤ 65536) (n0 : 0 ≤ n) (n1 : n ≤ s) (k : Nat) (hk : 3 ≤ k) :
    lighterlaw09_size.f k (spansL s pos n) = some n := by
  have m1 := Int.emod_nonneg pos (show s ≠ 0 by omega)
  have m2 := Int.emod_lt_of_pos pos (show 0 < s by omega)
  obtain ⟨k, rfl⟩ : ∃ m, k = m + 3 := ⟨k - 3, by omega⟩
  unfold lighterlaw09_size.f spansL
  by_cases a : n = 0
  · rw [if_pos a]; simp [lighterlaw09_size.l0, a]
  · rw [if_neg a]
    by_cases b : pos % s + n ≤ s
    · rw [if_pos b]
      have r0 : rd_T47 [⟨pos % s, n⟩] 0 = ⟨pos % s, n⟩ := rfl
      simp only [lighterlaw09_size.l0]
      rw [if_pos (by simp), if_pos (by omega), r0]
      dsimp only
      rw [wrap_id (x := 0 + 1) (by omega) (by omega), wrap_id (x := 0 + n) (by omega) (by omega), if_neg (by simp)]
      simp
    · rw [if_neg b]
      have r0 : rd_T47 [⟨pos % s, s - pos % s⟩, ⟨0, n - (s - pos % s)⟩] 0 = ⟨pos % s, s - pos % s⟩ := rfl
      have r1 : rd_T47 [⟨pos % s, s - pos % s⟩, ⟨0, n - (s - pos % s)⟩] 1 = ⟨0, n - (s - pos % s)⟩ := rfl
      simp only [lighterlaw09_size.l0]
      rw [if_pos (by simp), if_pos (by omega), r0, wrap_id (x := 0 + 1) (by omega) (by omega), if_pos (by simp), if_pos (by omega)]
      rw [show (0 : Int) + 1 = 1 by rfl, r1, wrap_id (x := 1 + 1) (by omega) (by omega), if_neg (by simp)]
      dsimp only
      rw [wrap_id (x := 0 + (s - pos % s)) (by omega) (by omega), wrap_id (by omega) (by omega)]
      simp; omega

theorem within_all {s pos i : Int} (h1 : 1 ≤ s) (h2 : s ≤ 65536) (i0 : 0 ≤ i) (i1 : i < s) (k : Nat) (hk : 3 ≤ k) :
    lighterref01_Within.f k (spansL s pos s) i = some true := by
  have m1 := Int.emod_nonneg pos (show s ≠ 0 by omega)
  have m2 := Int.emod_lt_of_pos pos (show 0 < s by omega)
  obtain ⟨k, rfl⟩ : ∃ m, k = m + 3 := ⟨k - 3, by omega⟩
  unfold lighterref01_Within.f spansL
  rw [if_neg (by omega)]
  by_cases b : pos % s + s ≤ s
  · rw [if_pos b]
    have r0 : rd_T47 [⟨pos % s, s⟩] 0 = ⟨pos % s, s⟩ := rfl
    simp only [lighterref01_Within.l0]
    rw [if_pos (by simp), if_pos (by omega), r0, if_pos (by simp; omega), wrap_id (by simp; omega) (by simp; omega), if_pos (by simp; omega)]
  · rw [if_neg b]
    have r0 : rd_T47 [⟨pos % s, s - pos % s⟩, ⟨0, s - (s - pos % s)⟩] 0 = ⟨pos % s, s - pos % s⟩ := rfl
    have r1 : rd_T47 [⟨pos % s, s - pos % s⟩, ⟨0, s - (s - pos % s)⟩] 1 = ⟨0, s - (s - pos % s)⟩ := rfl
    simp only [lighterref01_Within.l0]
    rw [if_pos (by simp), if_pos (by omega), r0]
    by_cases c : pos % s ≤ i
    · rw [if_pos (by simpa using c), wrap_id (x := i - _) (by simp; omega) (by simp; omega), if_pos (by simp; omega)]
    · rw [if_neg (by simpa using c), wrap_id (x := 0 + 1) (by omega) (by omega), if_pos (by simp), if_pos (by omega), show (0 : Int) + 1 = 1 by rfl, r1, if_pos (by simp; omega), wrap_id (by simp; omega) (by simp; omega), if_pos (by simp; omega)]

theorem round_loop {s h t pos : Int} (h1 : 1 ≤ s) (h2 : s ≤ 300) (d : Nat) : ∀ (k : Nat) (i : Int), 0 ≤ i → i ≤ s → s - i = d → d + 20 < k →
    lighterlaw09_RingRound.l0 k (spansL s pos s) i s h t = some true := by
  induction d with
  | zero =>
    intro k i i0 i1 hd hk
    obtain ⟨k, rfl⟩ : ∃ m, k = m + 1 := ⟨k - 1, by omega⟩
    simp only [lighterlaw09_RingRound.l0]
    rw [if_neg (by omega), awake_k k (by omega)]
    rfl
  | succ d ih =>
    intro k i i0 i1 hd hk
    obtain ⟨k, rfl⟩ : ∃ m, k = m + 1 := ⟨k - 1, by omega⟩
    simp only [lighterlaw09_RingRound.l0]
    rw [if_pos (by omega), within_all h1 (by omega) i0 (by omega) k (by omega)]
    simp only [Option.bind_some, if_true]
    rw [wrap_id (by omega) (by omega)]
    exact ih k (i + 1) (by omega) (by omega) (by omega) (by omega)

theorem round_awake (s h t pos n : Int) (k : Nat) (hk : 20 ≤ k) : lighterlaw09_RingRound.j0 k pos n true s h t = some true := by
  obtain ⟨k, rfl⟩ : ∃ m, k = m + 1 := ⟨k - 1, by omega⟩
  simp only [lighterlaw09_RingRound.j0]
  rw [if_pos trivial, awake_k k (by omega)]
  rfl

theorem round_all (s h t pos n : Int) : ∃ k, lighterlaw09_RingRound.f k s h t pos n = some true := by
  refine ⟨400, ?_⟩
  unfold lighterlaw09_RingRound.f
  by_cases m : MayP s h t
  · rw [may_yes m]
    simp only [Option.bind_some, if_true]
    split
    · exact round_awake _ _ _ _ _ _ (by omega)
    · split
      · exact round_awake _ _ _ _ _ _ (by omega)
      · split
        · exact round_awake _ _ _ _ _ _ (by omega)
        · split
          · exact round_awake _ _ _ _ _ _ (by omega)
          · by_cases c : n > s
            · rw [decide_eq_true c]
              exact round_awake _ _ _ _ _ _ (by omega)
            · rw [decide_eq_false c]
              rename_i a1 a2 a3 a4
              have m' := m
              obtain ⟨m1, m2, m3, m4, m5, m6⟩ := m'
              have e1 : spansL s (pos + s) n = spansL s pos n := by unfold spansL; rw [Int.add_emod_right]
              simp only [lighterlaw09_RingRound.j0]
              rw [if_neg (by simp), wrap_id (x := pos + s) (by omega) (by omega), at_ok m (by omega) (by omega) (by omega) (by omega) 399 (by omega), at_ok m (by omega) (by omega) (by omega) (by omega) 399 (by omega),
                at_ok m (by omega) (by omega) (by omega) (by omega) 399 (by omega), e1]
              simp only [Option.bind_some, if_true]
              rw [same_self _ (by have := spansL_length s pos n; omega) 399 (by have := spansL_length s pos n; omega)]
              simp only [Option.bind_some, if_true]
              rw [size_spans m1 m2 (by omega) (by omega) 399 (by omega)]
              simp only [Option.bind_some, if_true]
              rw [size_spans m1 m2 (by omega) (by omega) 399 (by omega)]
              simp only [Option.bind_some, bne_self_eq_false]
              simp only [lighterlaw09_RingRound.j1]
              rw [if_neg (by simp)]
              exact round_loop m1 (by omega) s.toNat 398 0 (by omega) (by omega) (by omega) (by omega)
  · rw [may_no m]
    simp only [Option.bind_some, Bool.false_eq_true, if_false]
    exact round_awake _ _ _ _ _ _ (by omega)

end Go.Proofs.Ytkbohbelmgmlnaa.PRingRound
