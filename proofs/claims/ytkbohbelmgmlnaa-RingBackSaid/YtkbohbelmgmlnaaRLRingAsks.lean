/- What the functions of the ring answer (plain law, no program walked here): for rings that may be, and for those that may not. -/
import Derived.Test.YtkbohbelmgmlnaaPRingAsksx3
import Derived.Test.YtkbohbelmgmlnaaPRingAsksx4
import Derived.Test.YtkbohbelmgmlnaaPRingAsksx5
import Derived.Test.YtkbohbelmgmlnaaPRingAsksx6
namespace Go.Proofs.Ytkbohbelmgmlnaa.PRingAsks
open Go.RowKit Go.Proofs.YtkbohbelmgmlnaaW.PrintWords Go.Proofs.YtkbohbelmgmlnaaW.PrintLast Go.Proofs.YtkbohbelmgmlnaaW.PrintMore
set_option linter.unusedVariables false
set_option linter.unusedSimpArgs false

def MayP (s h t : Int) : Prop := 1 ≤ s ∧ s ≤ 65536 ∧ 0 ≤ t ∧ t ≤ h ∧ h < 1099511627776 ∧ h - t ≤ s

instance (s h t : Int) : Decidable (MayP s h t) := by unfold MayP; exact inferInstance

theorem wrap_id {x : Int} (h1 : -9223372036854775808 ≤ x) (h2 : x < 9223372036854775808) : wrap64 x = x := by
  unfold wrap64; omega

theorem check_yes {s h t : Int} (m : MayP s h t) (k : Nat) (hk : 2 ≤ k) : ring_Ring_Check.f k s h t = some 0 := by
  obtain ⟨k, rfl⟩ : ∃ m, k = m + 2 := ⟨k - 2, by omega⟩
  obtain ⟨m1, m2, m3, m4, m5, m6⟩ := m
  have e : wrap64 (h - t) = h - t := wrap_id (by omega) (by omega)
  have e1 : (s == 0) = false := by simp; omega
  have e2 : decide (s > 65536) = false := by simp; omega
  have e3 : decide (h ≥ 1099511627776) = false := by simp; omega
  simp only [ring_Ring_Check.f, ring_Ring_Check.j0, ring_Ring_Check.j1, e, e1, e2, e3, Bool.false_and]
  rw [if_neg (by simp), if_neg (by omega), if_neg (by simp), if_neg (by omega), if_neg (by omega), if_neg (by simp), if_neg (by omega)]

theorem check_no {s h t : Int} (m : ¬ MayP s h t) (k : Nat) (hk : 2 ≤ k) : ring_Ring_Check.f k s h t = some 1 := by
  obtain ⟨k, rfl⟩ : ∃ m, k = m + 2 := ⟨k - 2, by omega⟩
  simp only [ring_Ring_Check.f, ring_Ring_Check.j0, ring_Ring_Check.j1]
  split
  · rfl
  · split
    · simp
    · split
      · rfl
      · split
        · simp
        · split
          · simp
          · split
            · rfl
            · split
              · rfl
              · exfalso
                rename_i a1 a2 a3 a4 a5 a6 a7
                simp only [decide_eq_true_eq] at a3 a6
                rw [wrap_id (by omega) (by omega)] at a7
                exact m ⟨by omega, by omega, by omega, by omega, by omega, by omega⟩

theorem used_yes {s h t : Int} (m : MayP s h t) (k : Nat) (hk : 2 ≤ k) : ring_Ring_Used.f k s h t = some (h - t) := by
  unfold ring_Ring_Used.f
  rw [check_yes m k hk]
  obtain ⟨m1, m2, m3, m4, m5, m6⟩ := m
  simp only [Option.bind_some]
  rw [if_pos trivial, wrap_id (by omega) (by omega)]

theorem used_no {s h t : Int} (m : ¬ MayP s h t) (k : Nat) (hk : 2 ≤ k) : ring_Ring_Used.f k s h t = some 0 := by
  unfold ring_Ring_Used.f
  rw [check_no m k hk]
  simp

theorem free_yes {s h t : Int} (m : MayP s h t) (k : Nat) (hk : 2 ≤ k) : ring_Ring_Free.f k s h t = some (s - (h - t)) := by
  unfold ring_Ring_Free.f
  rw [check_yes m k hk, used_yes m k hk]
  obtain ⟨m1, m2, m3, m4, m5, m6⟩ := m
  simp only [Option.bind_some]
  rw [if_pos trivial, wrap_id (by omega) (by omega)]

theorem free_no {s h t : Int} (m : ¬ MayP s h t) (k : Nat) (hk : 2 ≤ k) : ring_Ring_Free.f k s h t = some 0 := by
  unfold ring_Ring_Free.f
  rw [check_no m k hk]
  simp

def spansL (s pos n : Int) : List S47 :=
  if n = 0 then [] else if pos % s + n ≤ s then [⟨pos % s, n⟩] else [⟨pos % s, s - pos % s⟩, ⟨0, n - (s - pos % s)⟩]

theorem spans_is {s h t pos n : Int} (h1 : 1 ≤ s) (h2 : s ≤ 65536) (p1 : 0 ≤ pos) (n1 : 0 ≤ n) (n2 : n ≤ s) :
    ring_Ring_spans.f s h t pos n = some (spansL s pos n) := by
  have m1 := Int.emod_nonneg pos (show s ≠ 0 by omega)
  have m2 := Int.emod_lt_of_pos pos (show 0 < s by omega)
  have et : Int.tmod pos s = pos % s := Int.tmod_eq_emod_of_nonneg p1
  unfold ring_Ring_spans.f spansL
  rw [et, wrap_id (x := pos % s + n) (by omega) (by omega), wrap_id (x := s - pos % s) (by omega) (by omega), wrap_id (x := n - (s - pos % s)) (by omega) (by omega)]
  by_cases a : n = 0
  · rw [if_pos a, if_pos a]
  · rw [if_neg a, if_neg a, if_neg (by omega)]
    by_cases b : pos % s + n ≤ s
    · rw [if_pos b, if_pos b]
    · rw [if_neg b, if_neg b]

theorem spansL_length (s pos n : Int) : (spansL s pos n).length ≤ 2 := by
  unfold spansL; split
  · simp
  · split <;> simp

theorem push_arg {s h t n : Int} (m : MayP s h t) (hn : n < 0 ∨ 1099511627776 - h ≤ n) (k : Nat) (hk : 3 ≤ k) :
    ring_Ring_Push.f k s h t n = some (s, h, t, [], 1) := by
  obtain ⟨k, rfl⟩ : ∃ m, k = m + 1 := ⟨k - 1, by omega⟩
  simp only [ring_Ring_Push.f, check_yes m (k + 1) (by omega), Option.bind_some]
  obtain ⟨m1, m2, m3, m4, m5, m6⟩ := m
  rw [if_pos trivial, wrap_id (by omega) (by omega)]
  by_cases a : n < 0
  · rw [if_pos a]; simp only [ring_Ring_Push.j0]; simp
  · rw [if_neg a]; simp only [ring_Ring_Push.j0]; rw [if_pos (by simp; omega)]

theorem push_full {s h t n : Int} (m : MayP s h t) (h0 : 0 ≤ n) (h1 : n < 1099511627776 - h) (h2 : s - (h - t) < n) (k : Nat) (hk : 3 ≤ k) :
    ring_Ring_Push.f k s h t n = some (s, h, t, [], 32) := by
  obtain ⟨k, rfl⟩ : ∃ m, k = m + 1 := ⟨k - 1, by omega⟩
  simp only [ring_Ring_Push.f, check_yes m (k + 1) (by omega), Option.bind_some]
  have hf := free_yes m k (by omega)
  obtain ⟨m1, m2, m3, m4, m5, m6⟩ := m
  rw [if_pos trivial, wrap_id (by omega) (by omega), if_neg (by omega)]
  simp only [ring_Ring_Push.j0]
  rw [if_neg (by simp; omega), hf]
  simp only [Option.bind_some]
  rw [if_pos (by omega)]

theorem push_ok {s h t n : Int} (m : MayP s h t) (h0 : 0 ≤ n) (h1 : n < 1099511627776 - h) (h2 : n ≤ s - (h - t)) (k : Nat) (hk : 3 ≤ k) :
    ring_Ring_Push.f k s h t n = some (s, h + n, t, spansL s h n, 0) := by
  obtain ⟨k, rfl⟩ : ∃ m, k = m + 1 := ⟨k - 1, by omega⟩
  simp only [ring_Ring_Push.f, check_yes m (k + 1) (by omega), Option.bind_some]
  have hf := free_yes m k (by omega)
  obtain ⟨m1, m2, m3, m4, m5, m6⟩ := m
  rw [if_pos trivial, wrap_id (by omega) (by omega), if_neg (by omega)]
  simp only [ring_Ring_Push.j0]
  rw [if_neg (by simp; omega), hf]
  simp only [Option.bind_some]
  rw [if_neg (by omega), spans_is m1 m2 (by omega) h0 (by omega)]
  simp only [Option.bind_some]
  rw [wrap_id (by omega) (by omega)]

theorem push_no {s h t n : Int} (m : ¬ MayP s h t) (k : Nat) (hk : 3 ≤ k) :
    ring_Ring_Push.f k s h t n = some (s, h, t, [], 1) := by
  obtain ⟨k, rfl⟩ : ∃ m, k = m + 1 := ⟨k - 1, by omega⟩
  simp only [ring_Ring_Push.f, check_no m (k + 1) (by omega), Option.bind_some]
  rw [if_neg (by decide)]
  simp only [ring_Ring_Push.j0]
  simp

theorem pop_arg {s h t n : Int} (m : MayP s h t) (hn : n < 0) (k : Nat) (hk : 3 ≤ k) :
    ring_Ring_Pop.f k s h t n = some (s, h, t, [], 1) := by
  obtain ⟨k, rfl⟩ : ∃ m, k = m + 1 := ⟨k - 1, by omega⟩
  simp only [ring_Ring_Pop.f, check_yes m (k + 1) (by omega), Option.bind_some]
  rw [if_pos trivial]
  simp only [ring_Ring_Pop.j0]
  rw [if_pos (by simpa using hn)]

theorem pop_range {s h t n : Int} (m : MayP s h t) (h0 : 0 ≤ n) (h2 : h - t < n) (k : Nat) (hk : 3 ≤ k) :
    ring_Ring_Pop.f k s h t n = some (s, h, t, [], 31) := by
  obtain ⟨k, rfl⟩ : ∃ m, k = m + 1 := ⟨k - 1, by omega⟩
  simp only [ring_Ring_Pop.f, check_yes m (k + 1) (by omega), Option.bind_some]
  have hf := used_yes m k (by omega)
  rw [if_pos trivial]
  simp only [ring_Ring_Pop.j0]
  rw [if_neg (by simp; omega), hf]
  simp only [Option.bind_some]
  rw [if_pos (by omega)]

theorem pop_ok {s h t n : Int} (m : MayP s h t) (h0 : 0 ≤ n) (h2 : n ≤ h - t) (k : Nat) (hk : 3 ≤ k) :
    ring_Ring_Pop.f k s h t n = some (s, h, t + n, spansL s t n, 0) := by
  obtain ⟨k, rfl⟩ : ∃ m, k = m + 1 := ⟨k - 1, by omega⟩
  simp only [ring_Ring_Pop.f, check_yes m (k + 1) (by omega), Option.bind_some]
  have hf := used_yes m k (by omega)
  obtain ⟨m1, m2, m3, m4, m5, m6⟩ := m
  rw [if_pos trivial]
  simp only [ring_Ring_Pop.j0]
  rw [if_neg (by simp; omega), hf]
  simp only [Option.bind_some]
  rw [if_neg (by omega), spans_is m1 m2 (by omega) h0 (by omega)]
  simp only [Option.bind_some]
  rw [wrap_id (by omega) (by omega)]

theorem pop_no {s h t n : Int} (m : ¬ MayP s h t) (k : Nat) (hk : 3 ≤ k) :
    ring_Ring_Pop.f k s h t n = some (s, h, t, [], 1) := by
  obtain ⟨k, rfl⟩ : ∃ m, k = m + 1 := ⟨k - 1, by omega⟩
  simp only [ring_Ring_Pop.f, check_no m (k + 1) (by omega), Option.bind_some]
  rw [if_neg (by decide)]
  simp only [ring_Ring_Pop.j0]
  simp

theorem may_yes {s h t : Int} (m : MayP s h t) : lighterref09_May.f s h t = some true := by
  obtain ⟨m1, m2, m3, m4, m5, m6⟩ := m
  unfold lighterref09_May.f
  rw [if_pos (by omega), if_pos (by omega), if_pos (by omega), if_pos (by omega), if_pos (by omega), wrap_id (by omega) (by omega)]
  simp; omega

theorem may_no {s h t : Int} (m : ¬ MayP s h t) : lighterref09_May.f s h t = some false := by
  unfold lighterref09_May.f
  split
  · split
    · split
      · split
        · split
          · rw [wrap_id (by omega) (by omega)]
            simp only [Option.some.injEq, decide_eq_false_iff_not]
            intro h6
            exact m ⟨by omega, by omega, by omega, by omega, by omega, h6⟩
          · rfl
        · rfl
      · rfl
    · rfl
  · rfl

theorem same_from (l : List S47) (hl : l.length ≤ 1000000) (d : Nat) : ∀ (k : Nat) (i : Int), 0 ≤ i → i ≤ l.length → (l.length : Int) - i = d → d < k →
    lighterref01_Same.l0 k l l i = some true := by
  induction d with
  | zero =>
    intro k i h0 h1 hd hk
    obtain ⟨k, rfl⟩ : ∃ m, k = m + 1 := ⟨k - 1, by omega⟩
    simp only [lighterref01_Same.l0]
    rw [if_neg (by omega)]
  | succ d ih =>
    intro k i h0 h1 hd hk
    obtain ⟨k, rfl⟩ : ∃ m, k = m + 1 := ⟨k - 1, by omega⟩
    simp only [lighterref01_Same.l0]
    rw [if_pos (by omega), if_pos h0, if_pos (by omega), if_neg (by simp), wrap_id (by omega) (by omega)]
    exact ih k (i + 1) (by omega) (by omega) (by omega) (by omega)

theorem same_self (l : List S47) (hl : l.length ≤ 1000000) (k : Nat) (hk : l.length < k) : lighterref01_Same.f k l l = some true := by
  unfold lighterref01_Same.f
  rw [if_pos rfl]
  exact same_from l hl l.length k 0 (by omega) (by omega) (by omega) hk

theorem awake10 : lighterlaw09_awake.f 10 = some true := by decide +kernel

theorem awake_k (k : Nat) (hk : 10 ≤ k) : lighterlaw09_awake.f k = some true := by
  induction k with
  | zero => omega
  | succ k ih =>
    by_cases h : k + 1 = 10
    · rw [h]; exact awake10
    · exact lighterlaw09_awake.mono k true (ih (by omega))

theorem emod_low {pos i s : Int} (h1 : 1 ≤ s) (hi : 0 ≤ i) (h : pos % s + i < s) : (pos + i) % s = pos % s + i := by
  have m1 := Int.emod_nonneg pos (show s ≠ 0 by omega)
  rw [← Int.emod_add_emod]
  exact Int.emod_eq_of_lt (by omega) h

theorem emod_high {pos i s : Int} (h1 : 1 ≤ s) (h : s ≤ pos % s + i) (h2 : pos % s + i < s + s) : (pos + i) % s = pos % s + i - s := by
  have e : (pos % s + i) % s = (pos % s + i - s + s) % s := by rw [Int.sub_add_cancel]
  rw [← Int.emod_add_emod, e, Int.add_emod_right, Int.emod_eq_of_lt (by omega) (by omega)]

theorem refat_from {s pos n : Int} (h1 : 1 ≤ s) (h2 : s ≤ 65536) (p1 : 0 ≤ pos) (p2 : pos < 4398046511104) (n1 : 0 ≤ n) (n2 : n ≤ s) (d : Nat) :
    ∀ (k : Nat) (i : Int), 0 ≤ i → i ≤ n → n - i = d → d < k → lighterref09_At.l0 k s pos n (spansL s pos i) i = some (spansL s pos n) := by
  have m1 := Int.emod_nonneg pos (show s ≠ 0 by omega)
  have m2 := Int.emod_lt_of_pos pos (show 0 < s by omega)
  induction d with
  | zero =>
    intro k i h0 hi hd hk
    obtain ⟨k, rfl⟩ : ∃ m, k = m + 1 := ⟨k - 1, by omega⟩
    simp only [lighterref09_At.l0]
    rw [if_neg (by omega), show i = n by omega]
  | succ d ih =>
    intro k i h0 hi hd hk
    obtain ⟨k, rfl⟩ : ∃ m, k = m + 1 := ⟨k - 1, by omega⟩
    have nx := ih k (i + 1) (by omega) (by omega) (by omega) (by omega)
    have et : Int.tmod (wrap64 (pos + i)) s = (pos + i) % s := by
      rw [wrap_id (by omega) (by omega)]; exact Int.tmod_eq_emod_of_nonneg (by omega)
    simp only [lighterref09_At.l0]
    rw [if_pos (by omega), if_neg (by omega), et, wrap_id (x := i + 1) (by omega) (by omega)]
    by_cases a : i = 0
    · subst a
      have e : spansL s pos 0 = [] := by simp [spansL]
      have wz : wrap64 ((([] : List S47).length : Int) - 1) = -1 := by unfold wrap64; simp
      rw [e, wz, if_neg (by omega), if_pos (by simp)]
      have e2 : spansL s pos (0 + 1) = [⟨(pos + 0) % s, 1⟩] := by
        unfold spansL; rw [if_neg (by omega), if_pos (by omega)]; simp
      rw [← e2]; exact nx
    · by_cases b : pos % s + i ≤ s
      · have e : spansL s pos i = [⟨pos % s, i⟩] := by unfold spansL; rw [if_neg a, if_pos b]
        have w0 : wrap64 ((([⟨pos % s, i⟩] : List S47).length : Int) - 1) = 0 := by rw [wrap_id] <;> simp
        have r0 : rd_T47 [⟨pos % s, i⟩] 0 = ⟨pos % s, i⟩ := rfl
        rw [e, w0, if_pos (by omega), if_pos (by omega), if_pos (by simp), r0, wrap_id (x := pos % s + i) (by omega) (by omega), wrap_id (x := i + 1) (by omega) (by omega)]
        by_cases c : pos % s + i < s
        · rw [emod_low h1 h0 c, if_pos rfl]
          have e2 : spansL s pos (i + 1) = [⟨pos % s, i + 1⟩] := by unfold spansL; rw [if_neg (by omega), if_pos (by omega)]
          rw [e2] at nx
          exact nx
        · rw [emod_high h1 (by omega) (by omega), if_neg (by omega), if_pos (by simp)]
          have e2 : spansL s pos (i + 1) = [⟨pos % s, i⟩] ++ [⟨pos % s + i - s, 1⟩] := by
            unfold spansL; rw [if_neg (by omega), if_neg (by omega), show s - pos % s = i by omega, show i + 1 - i = 1 by omega, show pos % s + i - s = 0 by omega]; rfl
          rw [← e2]; exact nx
      · have e : spansL s pos i = [⟨pos % s, s - pos % s⟩, ⟨0, i - (s - pos % s)⟩] := by unfold spansL; rw [if_neg a, if_neg b]
        have w0 : wrap64 ((([⟨pos % s, s - pos % s⟩, ⟨0, i - (s - pos % s)⟩] : List S47).length : Int) - 1) = 1 := by rw [wrap_id] <;> simp
        have r0 : rd_T47 [⟨pos % s, s - pos % s⟩, ⟨0, i - (s - pos % s)⟩] 1 = ⟨0, i - (s - pos % s)⟩ := rfl
        rw [e, w0, if_pos (by omega), if_pos (by omega), if_pos (by simp), r0, wrap_id (x := 0 + (i - (s - pos % s))) (by omega) (by omega), wrap_id (x := i - (s - pos % s) + 1) (by omega) (by omega)]
        rw [emod_high h1 (by omega) (by omega), if_pos (by omega)]
        have e2 : spansL s pos (i + 1) = [⟨pos % s, s - pos % s⟩, ⟨0, i - (s - pos % s) + 1⟩] := by
          unfold spansL; rw [if_neg (by omega), if_neg (by omega), show i + 1 - (s - pos % s) = i - (s - pos % s) + 1 by omega]
        rw [e2] at nx
        exact nx

theorem refat_is {s pos n : Int} (h1 : 1 ≤ s) (h2 : s ≤ 65536) (p1 : 0 ≤ pos) (p2 : pos < 4398046511104) (n1 : 0 ≤ n) (n2 : n ≤ s) (k : Nat) (hk : n < k) :
    lighterref09_At.f k s pos n = some (spansL s pos n) := by
  unfold lighterref09_At.f
  have e : spansL s pos 0 = [] := by simp [spansL]
  have := refat_from h1 h2 p1 p2 n1 n2 n.toNat k 0 (by omega) (by omega) (by omega) (by omega)
  rw [e] at this
  exact this

end Go.Proofs.Ytkbohbelmgmlnaa.PRingAsks
