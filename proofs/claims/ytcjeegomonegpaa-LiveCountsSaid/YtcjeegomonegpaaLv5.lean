/- Slices of rows that are held: read, and handed to the library's sort. Conditions: what each theorem says. -/
import Derived.Test.YtcjeegomonegpaaLv3
import Derived.Shelf.SlSortCmp.InsertionK
namespace Go.Proofs.Ytcjeegomonegpaa.PLivePlays
open Go.RowKit Go.Maps Go.Sort Go.Proofs.YtcjeegomonegpaaW.PrintWords Go.Proofs.YtcjeegomonegpaaW.PrintLast Go.Proofs.YtcjeegomonegpaaW.PrintMore
set_option linter.unusedVariables false
set_option linter.unusedSimpArgs false
instance : Inhabited S23 := ⟨⟨1, 0, 0⟩⟩
theorem rowL_len (x : S23) : (rowL x).length = 3 := rfl
theorem rowL_one (x : S23) : ∀ v ∈ rowL x, v.oneCell' = true := by
  intro v hv
  simp [rowL] at hv
  rcases hv with rfl | rfl | rfl <;> rfl
theorem flatR_get : ∀ (l : List S23) (i c : Nat) (hi : i < l.length) (hc : c < 3), (flatR l)[i * 3 + c]? = (rowL l[i])[c]?
  | [], i, c, hi, _ => by simp at hi
  | x :: l, 0, c, hi, hc => by
    have : flatR (x :: l) = rowL x ++ flatR l := by simp [flatR]
    rw [this, List.getElem?_append_left (by rw [rowL_len]; omega)]
    simp
  | x :: l, i + 1, c, hi, hc => by
    have : flatR (x :: l) = rowL x ++ flatR l := by simp [flatR]
    rw [this, List.getElem?_append_right (by rw [rowL_len]; omega), rowL_len, show (i + 1) * 3 + c - 3 = i * 3 + c by omega, flatR_get l i c (by simpa using hi) hc]
    rfl
theorem holdsK_of_cells {enc : S23 → List Value} {w : World} {g off : Nat} {d : Array S23} (h : ∀ i, i < d.size → ∀ c, c < 3 → w.cell? ⟨g, off + i * 3 + c, none⟩ = some (enc d[i]!)[c]! ∧ w.frozen? ⟨g, off + i * 3 + c, none⟩ = false) : HoldsK enc 3 w g off d := by
  intro t ht
  rw [size_flatK] at ht
  have h1 := h (t / 3) (by omega) (t % 3) (by omega)
  have e : off + t / 3 * 3 + t % 3 = off + t := by omega
  rw [e] at h1
  rw [get_flatK _ _ _ _ ht]
  exact h1
/-- The slice v is the rows l, in memory from base on that can be written. -/
def SlR (w : World) (base : Nat) (v : Value) (l : List S23) : Prop :=
  (v = .slice none 0 0 ∧ l = []) ∨ ∃ g o cap, v = .slice (some ⟨g, o, none⟩) l.length cap ∧ base ≤ g ∧ g < w.heap.size ∧ l.length ≤ cap ∧ HoldsK rowL 3 w g o l.toArray
theorem rowL_bang (x : S23) (c : Nat) (hc : c < 3) : (rowL x)[c]? = some (rowL x)[c]! := by
  match c, hc with
  | 0, _ => rfl
  | 1, _ => rfl
  | 2, _ => rfl
theorem arr_bang (l : List S23) (i : Nat) (hi : i < l.length) : l.toArray[i]! = l[i] := by
  rw [getElem!_pos l.toArray i (by simpa using hi)]
  simp
theorem SlR.of_own {w : World} {base : Nat} {v : Value} {l : List S23} (h : w.ownsRow base 23 3 v l.length (flatR l)) : SlR w base v l := by
  obtain ⟨h0, h1⟩ := h
  rcases h1 with ⟨rfl, h1⟩ | ⟨g, cap, cur, rfl, hb, hg, hc, _, hs, ht⟩
  · exact .inl ⟨rfl, List.eq_nil_of_length_eq_zero h1⟩
  · refine .inr ⟨g, 0, cap, rfl, hb, blk_lt hg, hc, holdsK_of_cells fun i hi c hc => ⟨?_, ?_⟩⟩
    · have hi' : i < l.length := by simpa using hi
      have h2 := flatR_get l i c hi' hc
      rw [← ht, List.getElem?_take_of_lt (by omega), rowL_bang _ _ hc] at h2
      rw [blk_cell hg, Nat.zero_add, arr_bang l i hi']
      simpa using h2
    · exact blk_frozen hg _
theorem SlR.below {w w' : World} {base : Nat} {v : Value} {l : List S23} (h : SlR w base v l) (hb : Below w.heap.size w w') : SlR w' base v l := by
  rcases h with h | ⟨g, o, cap, h1, h2, h3, h4, h5⟩
  · exact .inl h
  · refine .inr ⟨g, o, cap, h1, h2, Nat.lt_of_lt_of_le h3 hb.size, h4, fun t ht => ?_⟩
    obtain ⟨q1, q2⟩ := h5 t ht
    have := hb.block g h3
    refine ⟨?_, ?_⟩
    · rw [World.cell?_of_block (a := ⟨g, o + t, none⟩) this]; exact q1
    · rw [World.frozen?_of_block (a := ⟨g, o + t, none⟩) this]; exact q2
theorem reads_of_holds {w : World} {g o : Nat} {l : List S23} (h : HoldsK rowL 3 w g o l.toArray) (hm : l.length ≤ 9223372036854775807) : Kd.C k23 w (some ⟨g, o, none⟩) l.length l := by
  refine ⟨rfl, hm, fun _ => ⟨_, rfl, fun j p hp => ⟨rowL p, rfl, k23_mk w p, fun i u hu => ?_⟩⟩⟩
  obtain ⟨hj, rfl⟩ := List.getElem?_eq_some_iff.1 hp
  have hi : i < 3 := by
    have := (List.getElem?_eq_some_iff.1 hu).1
    rwa [rowL_len] at this
  have h1 := (h.cell (i := j) (c := i) (by simpa using hj) hi).1
  rw [arr_bang l j hj] at h1
  have e : (⟨g, o, none⟩ : Addr).add (j * 3 + i) = ⟨g, o + j * 3 + i, none⟩ := by
    unfold Addr.add
    split
    · rename_i e0
      have e1 : j = 0 := by omega
      have e2 : i = 0 := by omega
      simp [e1, e2]
    · simp [Nat.add_assoc]
  show w.cell? ((⟨g, o, none⟩ : Addr).add (j * 3 + i)) = some u
  rw [e]
  rw [rowL_bang _ _ hi] at hu
  rw [← Option.some.inj hu]
  exact h1
theorem SlR.reads {w : World} {base : Nat} {v : Value} {l : List S23} (h : SlR w base v l) (hm : l.length ≤ 1000000) : ∃ A c, v = .slice A l.length c ∧ l.length ≤ c ∧ Kd.C k23 w A l.length l := by
  rcases h with ⟨rfl, rfl⟩ | ⟨g, o, cap, rfl, _, _, hc, hh⟩
  · exact ⟨none, 0, rfl, Nat.le_refl _, ⟨rfl, by simp, fun h => absurd h (Nat.lt_irrefl 0)⟩⟩
  · exact ⟨_, _, rfl, hc, reads_of_holds hh (by omega)⟩
end Go.Proofs.Ytcjeegomonegpaa.PLivePlays
