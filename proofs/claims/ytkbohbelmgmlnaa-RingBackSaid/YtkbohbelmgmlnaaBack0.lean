/- What RingBack's places are (plain law), and the list of them in memory: a list of the call's own that is appended to and whose head is taken away. Conditions: what each theorem says. -/
import Derived.Test.YtkbohbelmgmlnaaWalkRingAsks0
namespace Go.Proofs.Ytkbohbelmgmlnaa.PRingAsks
open Go.RowKit Go.Proofs.YtkbohbelmgmlnaaW.PrintWords Go.Proofs.YtkbohbelmgmlnaaW.PrintLast Go.Proofs.YtkbohbelmgmlnaaW.PrintMore
set_option linter.unusedVariables false
set_option linter.unusedSimpArgs false
/-- The sectors of n positions from t on. -/
def seqS (s t : Int) (n : Nat) : List Int := (List.range n).map fun (k : Nat) => (t + (k : Int)) % s
theorem seqS_length (s t : Int) (n : Nat) : (seqS s t n).length = n := by simp [seqS]
theorem seqS_get (s t : Int) (n j : Nat) (h : j < n) : (seqS s t n)[j]? = some ((t + (j : Int)) % s) := by
  unfold seqS
  rw [List.getElem?_map, List.getElem?_range h]
  rfl
theorem seqS_snoc (s t : Int) (n : Nat) : seqS s t (n + 1) = seqS s t n ++ [(t + (n : Int)) % s] := by
  unfold seqS
  rw [List.range_succ, List.map_append]
  rfl
theorem seqS_tail (s t : Int) (n : Nat) : seqS s t (n + 1) = (t % s) :: seqS s (t + 1) n := by
  apply List.ext_getElem?
  intro j
  by_cases hj : j < n + 1
  · rw [seqS_get _ _ _ _ hj]
    cases j with
    | zero => simp
    | succ j =>
      rw [List.getElem?_cons_succ, seqS_get _ _ _ _ (by omega)]
      congr 2
      omega
  · rw [List.getElem?_eq_none (by rw [seqS_length]; omega), List.getElem?_eq_none (by simp [seqS_length]; omega)]
theorem mod_ne (s t : Int) (j n : Nat) (hj : j < n) (hn : (n : Int) < s) : (t + (j : Int)) % s ≠ (t + (n : Int)) % s := by
  intro h
  have h1 := Int.emod_add_mul_ediv (t + (j : Int)) s
  have h2 := Int.emod_add_mul_ediv (t + (n : Int)) s
  rw [h] at h1
  have h3 : (n : Int) - (j : Int) = s * ((t + (n : Int)) / s - (t + (j : Int)) / s) := by
    rw [Int.mul_sub]
    omega
  generalize (t + (n : Int)) / s - (t + (j : Int)) / s = q at h3
  have hq : q < 1 := by
    by_cases hq : q < 1
    · exact hq
    · have : s * 1 ≤ s * q := Int.mul_le_mul_of_nonneg_left (by omega) (by omega)
      omega
  have hq2 : 0 < q := by
    by_cases hq2 : 0 < q
    · exact hq2
    · have : s * q ≤ s * 0 := Int.mul_le_mul_of_nonneg_left (by omega) (by omega)
      omega
  omega
/-- How many sectors the first k spans have. -/
def pre (L : List S47) (k : Nat) : Int := ((L.take k).map (·.f1)).foldr (· + ·) 0
/-- The spans are the sectors of n positions from pos on. -/
def SP (s pos n : Int) (L : List S47) : Prop := pre L L.length = n ∧ L.length ≤ 2 ∧ ∀ k x, L[k]? = some x → 0 ≤ x.f1 ∧ 0 ≤ pre L k ∧ pre L (k + 1) = pre L k + x.f1 ∧ pre L k + x.f1 ≤ n ∧ 0 ≤ x.f0 ∧ x.f0 + x.f1 ≤ s ∧ ∀ j : Int, 0 ≤ j → j < x.f1 → x.f0 + j = (pos + (pre L k + j)) % s
theorem sp_spans (s pos n : Int) (hs : 1 ≤ s) (hp : 0 ≤ pos) (h0 : 0 ≤ n) (h1 : n ≤ s) : SP s pos n (spansL s pos n) := by
  have b1 := Int.emod_nonneg pos (show s ≠ 0 by omega)
  have b2 := Int.emod_lt_of_pos pos (show 0 < s by omega)
  have hm : ∀ x : Int, 0 ≤ x → x < s → (pos + (x - pos % s)) % s = x := by
    intro x hx0 hx1
    have h := Int.emod_add_mul_ediv pos s
    rw [show pos + (x - pos % s) = x + s * (pos / s) by omega, Int.add_mul_emod_self_left]
    exact Int.emod_eq_of_lt hx0 hx1
  have hm2 : ∀ x : Int, 0 ≤ x → x < s → (pos + (s - pos % s + x)) % s = x := by
    intro x hx0 hx1
    have h := Int.emod_add_mul_ediv pos s
    rw [show pos + (s - pos % s + x) = x + s * (pos / s + 1) by rw [Int.mul_add]; omega, Int.add_mul_emod_self_left]
    exact Int.emod_eq_of_lt hx0 hx1
  unfold spansL
  split
  · refine ⟨by simp [pre]; omega, by simp, fun k x h => by simp at h⟩
  · split
    · refine ⟨by simp [pre], by simp, fun k x h => ?_⟩
      match k, h with
      | 0, h =>
        simp at h
        subst h
        refine ⟨by simpa using h0, by simp [pre], by simp [pre], by simp [pre], b1, by simpa using (by assumption), fun j hj0 hj1 => ?_⟩
        simp only at hj1
        have := hm (pos % s + j) (by omega) (by omega)
        rw [← this]
        congr 1
        simp [pre]
        omega
    · refine ⟨by simp [pre]; omega, by simp, fun k x h => ?_⟩
      match k, h with
      | 0, h =>
        simp at h
        subst h
        refine ⟨by simp only; omega, by simp [pre], by simp [pre], by simp [pre]; omega, b1, by simp only; omega, fun j hj0 hj1 => ?_⟩
        simp only at hj1
        have := hm (pos % s + j) (by omega) (by omega)
        rw [← this]
        congr 1
        simp [pre]
        omega
      | 1, h =>
        simp at h
        subst h
        refine ⟨by simp only; omega, by simp [pre]; omega, by simp [pre], by simp [pre]; omega, by simp, by simp only; omega, fun j hj0 hj1 => ?_⟩
        simp only at hj1
        have := hm2 j hj0 (by omega)
        simp [pre]
        exact this.symm

/-- A list of numbers of the call's own, from base on: v are its cells. -/
def Tk (w : World) (base : Nat) (v : Value) (xs : List Int) : Prop :=
  (v = .slice none 0 0 ∧ xs = []) ∨ ∃ (g o cap : Nat) (cur : Array Value), v = .slice (some ⟨g, o, none⟩) xs.length cap ∧ base ≤ g ∧ w.heap[g]? = some (.cells cur 3 (0, 0)) ∧ o + cap ≤ cur.size ∧ xs.length ≤ cap ∧ ∀ j (h : j < xs.length), cur[o + j]? = some (.int .i64 xs[j])
theorem Tk.below {w w1 : World} {base : Nat} {v : Value} {xs : List Int} (h : Tk w base v xs) (hb : Below w.heap.size w w1) : Tk w1 base v xs := by
  rcases h with h | ⟨g, o, cap, cur, h1, h2, h3, h4⟩
  · exact .inl h
  · exact .inr ⟨g, o, cap, cur, h1, h2, blk_below h3 hb, h4⟩
theorem Tk.shape {w : World} {base : Nat} {v : Value} {xs : List Int} (h : Tk w base v xs) : ∃ (A : Option Addr) (cap : Nat), v = .slice A xs.length cap ∧ (xs ≠ [] → ∃ g o, A = some ⟨g, o, none⟩ ∧ base ≤ g ∧ xs.length ≤ cap ∧ ∀ j (h : j < xs.length), w.cell? ⟨g, o + j, none⟩ = some (.int .i64 xs[j])) := by
  rcases h with ⟨rfl, rfl⟩ | ⟨g, o, cap, cur, h1, h2, h3, h4, h5, h6⟩
  · exact ⟨none, 0, rfl, fun h => absurd rfl h⟩
  · exact ⟨_, _, h1, fun _ => ⟨g, o, rfl, h2, h5, fun j hj => by rw [blk_cell h3]; exact h6 j hj⟩⟩
/-- The head taken away. -/
theorem Tk.tail {w : World} {base g o cap : Nat} {x : Int} {xs : List Int} (h : Tk w base (.slice (some ⟨g, o, none⟩) (xs.length + 1) cap) (x :: xs)) : Tk w base (.slice (if cap = 1 then some ⟨g, o, none⟩ else some ⟨g, o + 1, none⟩) xs.length (cap - 1)) xs := by
  rcases h with ⟨h, _⟩ | ⟨g', o', cap', cur, h1, h2, h3, h4, h5, h6⟩
  · cases h
  · injection h1 with e1 e2 e3
    injection e1 with e1
    injection e1 with e1 e4
    subst e1; subst e4; subst e3
    simp only [List.length_cons] at h5 h6
    right
    by_cases hc : cap = 1
    · rw [if_pos hc]
      have : xs = [] := by
        cases xs with
        | nil => rfl
        | cons a b => simp at h5; omega
      subst this
      exact ⟨g, o, cap - 1, cur, rfl, h2, h3, by omega, by simp, fun j hj => by simp at hj⟩
    · rw [if_neg hc]
      refine ⟨g, o + 1, cap - 1, cur, rfl, h2, h3, by omega, by omega, fun j hj => ?_⟩
      have := h6 (j + 1) (by omega)
      rw [show o + 1 + j = o + (j + 1) by omega]
      simpa using this
end Go.Proofs.Ytkbohbelmgmlnaa.PRingAsks
