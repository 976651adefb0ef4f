/- What At, Holds and New answer (plain law). Conditions: what each theorem says. -/
import Derived.Test.YtkbohbelmgmlnaaRLRingAsks
namespace Go.Proofs.Ytkbohbelmgmlnaa.PRingAsks
open Go.RowKit Go.Proofs.YtkbohbelmgmlnaaW.PrintWords Go.Proofs.YtkbohbelmgmlnaaW.PrintLast Go.Proofs.YtkbohbelmgmlnaaW.PrintMore
set_option linter.unusedVariables false
set_option linter.unusedSimpArgs false

theorem holds_yes {s h t pos n : Int} (m : MayP s h t) (k : Nat) (hk : 2 ≤ k) : ring_Ring_Holds.f k s h t pos n = some (decide (0 ≤ n ∧ t ≤ pos ∧ pos ≤ h ∧ n ≤ h - pos)) := by
  unfold ring_Ring_Holds.f
  rw [check_yes m k hk]
  obtain ⟨m1, m2, m3, m4, m5, m6⟩ := m
  simp only [Option.bind_some]
  rw [if_pos trivial]
  by_cases a : n ≥ 0
  · by_cases b : pos ≥ t
    · by_cases c : pos ≤ h
      · rw [if_pos a, if_pos b, if_pos c, wrap_id (by omega) (by omega)]
        have e : (0 ≤ n ∧ t ≤ pos ∧ pos ≤ h ∧ n ≤ h - pos) ↔ n ≤ h - pos := ⟨fun h => h.2.2.2, fun h => ⟨a, b, c, h⟩⟩
        simp only [e]
      · rw [if_pos a, if_pos b, if_neg c]; simp; omega
    · rw [if_pos a, if_neg b]; simp; omega
  · rw [if_neg a]; simp; omega

theorem at_ok {s h t pos n : Int} (m : MayP s h t) (p0 : 0 ≤ pos) (p1 : pos < 1099511627776) (n0 : 0 ≤ n) (n1 : n ≤ s) (k : Nat) (hk : 2 ≤ k) :
    ring_Ring_At.f k s h t pos n = some (spansL s pos n, 0) := by
  unfold ring_Ring_At.f
  rw [check_yes m k hk]
  obtain ⟨m1, m2, m3, m4, m5, m6⟩ := m
  simp only [Option.bind_some]
  rw [if_pos trivial, if_neg (by omega), if_neg (by omega), if_neg (by omega), if_neg (by omega), spans_is m1 m2 p0 n0 n1]
  rfl

theorem at_arg {s h t pos n : Int} (m : MayP s h t) (hn : pos < 0 ∨ n < 0 ∨ s < n ∨ 1099511627776 ≤ pos) (k : Nat) (hk : 2 ≤ k) :
    ring_Ring_At.f k s h t pos n = some ([], 1) := by
  unfold ring_Ring_At.f
  rw [check_yes m k hk]
  simp only [Option.bind_some]
  rw [if_pos trivial]
  split
  · rfl
  · split
    · rfl
    · split
      · rfl
      · split
        · rfl
        · omega

theorem at_no {s h t pos n : Int} (m : ¬ MayP s h t) (k : Nat) (hk : 2 ≤ k) : ring_Ring_At.f k s h t pos n = some ([], 1) := by
  unfold ring_Ring_At.f
  rw [check_no m k hk]
  simp

theorem holds_no {s h t pos n : Int} (m : ¬ MayP s h t) (k : Nat) (hk : 2 ≤ k) : ring_Ring_Holds.f k s h t pos n = some false := by
  unfold ring_Ring_Holds.f
  rw [check_no m k hk]
  simp

theorem new_yes {s : Int} (h1 : 1 ≤ s) (h2 : s ≤ 65536) (k : Nat) (hk : 2 ≤ k) : ring_New.f k s = some (s, 0, 0, 0) := by
  unfold ring_New.f
  rw [check_yes (s := s) (h := 0) (t := 0) ⟨h1, h2, by omega, by omega, by omega, by omega⟩ k hk]
  simp

theorem new_no {s : Int} (h : ¬ (1 ≤ s ∧ s ≤ 65536)) (k : Nat) (hk : 2 ≤ k) : ring_New.f k s = some (0, 0, 0, 1) := by
  unfold ring_New.f
  rw [check_no (s := s) (h := 0) (t := 0) (fun m => h ⟨m.1, m.2.1⟩) k hk]
  simp

end Go.Proofs.Ytkbohbelmgmlnaa.PRingAsks
